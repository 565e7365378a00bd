/-
  No cell of these rows narrows 'for every input' (looked for: loops, veiled, ifaces, maps, wideKeys, modest, calm, conditions, laid).
  DERIVED. THE GIVEN ROWS OF THIS SEAT. 18 by the template 'for every input the law returns true; each argument reads behind the call as it read before'; 0 by the template 'total and deterministic' (their statements: YtlecnodlnkanaaaTotals.lean).
  GIVEN WITH THE SEED: the statements are not yours to turn. If you find one false, say at which input.
  Laid BY PROGRAM, IN A SANDBOX (cutbox-rows.mjs): the forced cells as the released guide's own fill.sh prints them over the translation 24712acb408bb079… (all of the seat's roots in one cut). By AI agents, Wed Nov 11 2026. No macro, syntax, notation, axiom, sorry.
-/
import Derived.Test.YtlecnodlnkanaaaChecked
import GoSem.Claim
import GoSem.ClaimJoined
import GoSem.ClaimMapViews
import Derived.JoinedTies
import Derived.KernelRfl
namespace Go.Proofs.Ytlecnodlnkanaaa
/- THE CELL 'sum', in the pinned program and in every row, IS THE sha256 OF THE DUMP (.gsa) THAT YtlecnodlnkanaaaProg.lean LOADS. Nothing in Lean hashes anything: it is a label: what it is worth is what the hold of that sum in a sandbox is worth. -/
noncomputable def Try.pinned : Pinned := { name := "ytlecnodlnkanaaa", sum := "24712acb408bb0791156ec6415799d5d1ab518c1f6da1bd3eef5798050619396", checked := Try.checked }
namespace Rows
def none {H : Type} : Left H := { results := [], args := [] }

/-- 'reelkeeperlaw07.EntryTells': WHATEVER THE INPUT: true; the input reads as it did. -/
def entryTellsSpec : ChangeSpec := { name := "entryTells", fn := fun _ => fun
  | [d] => { results := [.lit (.bool true)], args := [d] }
  | _ => none }
def entryTellsRow : OpenClaim := { program := "ytlecnodlnkanaaa", sum := "24712acb408bb0791156ec6415799d5d1ab518c1f6da1bd3eef5798050619396", func := "reelkeeper/reelkeeperlaw07.EntryTells", spec := "entryTells", inPlace := ["internal/bytealg.IndexByteString", "internal/bytealg.IndexString"], unfollowed := true, recurses := true, named := ["internal/bytealg.MaxLen"], apart := false }
def EntryTellsSaid : Prop := entryTellsRow.holds Try.pinned (OpenSpec.ofChange entryTellsSpec)

/-- ITS FALSE NEIGHBOUR: 'it returns false'. Refute it at one input. -/
def entryTellsWrong : ChangeSpec := { name := "entryTells", fn := fun _ => fun
  | [d] => { results := [.lit (.bool false)], args := [d] }
  | _ => none }
def EntryTellsWrongFalsely : Prop := entryTellsRow.holds Try.pinned (OpenSpec.ofChange entryTellsWrong)

/-- 'reelkeeperlaw07.EntryApart': WHATEVER THE INPUT: true; the input reads as it did. -/
def entryApartSpec : ChangeSpec := { name := "entryApart", fn := fun _ => fun
  | [d1, d2] => { results := [.lit (.bool true)], args := [d1, d2] }
  | _ => none }
def entryApartRow : OpenClaim := { program := "ytlecnodlnkanaaa", sum := "24712acb408bb0791156ec6415799d5d1ab518c1f6da1bd3eef5798050619396", func := "reelkeeper/reelkeeperlaw07.EntryApart", spec := "entryApart", inPlace := ["internal/bytealg.IndexByteString", "internal/bytealg.IndexString"], unfollowed := true, recurses := true, named := ["internal/bytealg.MaxLen"], apart := false }
def EntryApartSaid : Prop := entryApartRow.holds Try.pinned (OpenSpec.ofChange entryApartSpec)

/-- ITS FALSE NEIGHBOUR: 'it returns false'. Refute it at one input. -/
def entryApartWrong : ChangeSpec := { name := "entryApart", fn := fun _ => fun
  | [d1, d2] => { results := [.lit (.bool false)], args := [d1, d2] }
  | _ => none }
def EntryApartWrongFalsely : Prop := entryApartRow.holds Try.pinned (OpenSpec.ofChange entryApartWrong)

/-- 'reelkeeperlaw07.EntryMany': WHATEVER THE INPUT: true; the input reads as it did. -/
def entryManySpec : ChangeSpec := { name := "entryMany", fn := fun _ => fun
  | [d] => { results := [.lit (.bool true)], args := [d] }
  | _ => none }
def entryManyRow : OpenClaim := { program := "ytlecnodlnkanaaa", sum := "24712acb408bb0791156ec6415799d5d1ab518c1f6da1bd3eef5798050619396", func := "reelkeeper/reelkeeperlaw07.EntryMany", spec := "entryMany", inPlace := ["internal/bytealg.IndexByteString", "internal/bytealg.IndexString"], unfollowed := true, recurses := true, named := ["internal/bytealg.MaxLen"], apart := false }
def EntryManySaid : Prop := entryManyRow.holds Try.pinned (OpenSpec.ofChange entryManySpec)

/-- ITS FALSE NEIGHBOUR: 'it returns false'. Refute it at one input. -/
def entryManyWrong : ChangeSpec := { name := "entryMany", fn := fun _ => fun
  | [d] => { results := [.lit (.bool false)], args := [d] }
  | _ => none }
def EntryManyWrongFalsely : Prop := entryManyRow.holds Try.pinned (OpenSpec.ofChange entryManyWrong)

/-- 'reelkeeperlaw07.EntryGrows': WHATEVER THE INPUT: true; the input reads as it did. -/
def entryGrowsSpec : ChangeSpec := { name := "entryGrows", fn := fun _ => fun
  | [d1, d2] => { results := [.lit (.bool true)], args := [d1, d2] }
  | _ => none }
def entryGrowsRow : OpenClaim := { program := "ytlecnodlnkanaaa", sum := "24712acb408bb0791156ec6415799d5d1ab518c1f6da1bd3eef5798050619396", func := "reelkeeper/reelkeeperlaw07.EntryGrows", spec := "entryGrows", inPlace := ["internal/bytealg.IndexByteString", "internal/bytealg.IndexString"], unfollowed := true, recurses := true, named := ["internal/bytealg.MaxLen"], apart := false }
def EntryGrowsSaid : Prop := entryGrowsRow.holds Try.pinned (OpenSpec.ofChange entryGrowsSpec)

/-- ITS FALSE NEIGHBOUR: 'it returns false'. Refute it at one input. -/
def entryGrowsWrong : ChangeSpec := { name := "entryGrows", fn := fun _ => fun
  | [d1, d2] => { results := [.lit (.bool false)], args := [d1, d2] }
  | _ => none }
def EntryGrowsWrongFalsely : Prop := entryGrowsRow.holds Try.pinned (OpenSpec.ofChange entryGrowsWrong)

/-- 'reelkeeperlaw05.LongBack': WHATEVER THE INPUT: true; the input reads as it did. -/
def longBackSpec : ChangeSpec := { name := "longBack", fn := fun _ => fun
  | [d1, d2] => { results := [.lit (.bool true)], args := [d1, d2] }
  | _ => none }
def longBackRow : OpenClaim := { program := "ytlecnodlnkanaaa", sum := "24712acb408bb0791156ec6415799d5d1ab518c1f6da1bd3eef5798050619396", func := "reelkeeper/reelkeeperlaw05.LongBack", spec := "longBack", inPlace := ["internal/bytealg.IndexByteString", "internal/bytealg.IndexString", "internal/bytealg.IndexByte", "internal/bytealg.Index"], unfollowed := true, recurses := true, named := ["internal/bytealg.MaxLen"], apart := false }
def LongBackSaid : Prop := longBackRow.holds Try.pinned (OpenSpec.ofChange longBackSpec)

/-- ITS FALSE NEIGHBOUR: 'it returns false'. Refute it at one input. -/
def longBackWrong : ChangeSpec := { name := "longBack", fn := fun _ => fun
  | [d1, d2] => { results := [.lit (.bool false)], args := [d1, d2] }
  | _ => none }
def LongBackWrongFalsely : Prop := longBackRow.holds Try.pinned (OpenSpec.ofChange longBackWrong)

/-- 'reelkeeperlaw07.EntryFirst': WHATEVER THE INPUT: true; the input reads as it did. -/
def entryFirstSpec : ChangeSpec := { name := "entryFirst", fn := fun _ => fun
  | [d] => { results := [.lit (.bool true)], args := [d] }
  | _ => none }
def entryFirstRow : OpenClaim := { program := "ytlecnodlnkanaaa", sum := "24712acb408bb0791156ec6415799d5d1ab518c1f6da1bd3eef5798050619396", func := "reelkeeper/reelkeeperlaw07.EntryFirst", spec := "entryFirst", inPlace := ["internal/bytealg.IndexByteString", "internal/bytealg.IndexString", "internal/bytealg.IndexByte", "internal/bytealg.Index"], unfollowed := true, recurses := true, named := ["internal/bytealg.MaxLen"], apart := false }
def EntryFirstSaid : Prop := entryFirstRow.holds Try.pinned (OpenSpec.ofChange entryFirstSpec)

/-- ITS FALSE NEIGHBOUR: 'it returns false'. Refute it at one input. -/
def entryFirstWrong : ChangeSpec := { name := "entryFirst", fn := fun _ => fun
  | [d] => { results := [.lit (.bool false)], args := [d] }
  | _ => none }
def EntryFirstWrongFalsely : Prop := entryFirstRow.holds Try.pinned (OpenSpec.ofChange entryFirstWrong)

/-- 'reelkeeperlaw07.EntryHead': WHATEVER THE INPUT: true; the input reads as it did. -/
def entryHeadSpec : ChangeSpec := { name := "entryHead", fn := fun _ => fun
  | [d] => { results := [.lit (.bool true)], args := [d] }
  | _ => none }
def entryHeadRow : OpenClaim := { program := "ytlecnodlnkanaaa", sum := "24712acb408bb0791156ec6415799d5d1ab518c1f6da1bd3eef5798050619396", func := "reelkeeper/reelkeeperlaw07.EntryHead", spec := "entryHead", inPlace := ["internal/bytealg.IndexByteString", "internal/bytealg.IndexString", "internal/bytealg.IndexByte", "internal/bytealg.Index"], unfollowed := true, recurses := true, named := ["internal/bytealg.MaxLen"], apart := false }
def EntryHeadSaid : Prop := entryHeadRow.holds Try.pinned (OpenSpec.ofChange entryHeadSpec)

/-- ITS FALSE NEIGHBOUR: 'it returns false'. Refute it at one input. -/
def entryHeadWrong : ChangeSpec := { name := "entryHead", fn := fun _ => fun
  | [d] => { results := [.lit (.bool false)], args := [d] }
  | _ => none }
def EntryHeadWrongFalsely : Prop := entryHeadRow.holds Try.pinned (OpenSpec.ofChange entryHeadWrong)

/-- 'reelkeeperlaw08.StreamWhere': WHATEVER THE INPUT: true; the input reads as it did. -/
def streamWhereSpec : ChangeSpec := { name := "streamWhere", fn := fun _ => fun
  | [d1, d2] => { results := [.lit (.bool true)], args := [d1, d2] }
  | _ => none }
def streamWhereRow : OpenClaim := { program := "ytlecnodlnkanaaa", sum := "24712acb408bb0791156ec6415799d5d1ab518c1f6da1bd3eef5798050619396", func := "reelkeeper/reelkeeperlaw08.StreamWhere", spec := "streamWhere", inPlace := ["internal/bytealg.IndexByteString", "internal/bytealg.IndexString"], unfollowed := true, recurses := true, named := ["internal/bytealg.MaxLen"], apart := false }
def StreamWhereSaid : Prop := streamWhereRow.holds Try.pinned (OpenSpec.ofChange streamWhereSpec)

/-- ITS FALSE NEIGHBOUR: 'it returns false'. Refute it at one input. -/
def streamWhereWrong : ChangeSpec := { name := "streamWhere", fn := fun _ => fun
  | [d1, d2] => { results := [.lit (.bool false)], args := [d1, d2] }
  | _ => none }
def StreamWhereWrongFalsely : Prop := streamWhereRow.holds Try.pinned (OpenSpec.ofChange streamWhereWrong)

/-- 'reelkeeperlaw08.StreamData': WHATEVER THE INPUT: true; the input reads as it did. -/
def streamDataSpec : ChangeSpec := { name := "streamData", fn := fun _ => fun
  | [d1, d2] => { results := [.lit (.bool true)], args := [d1, d2] }
  | _ => none }
def streamDataRow : OpenClaim := { program := "ytlecnodlnkanaaa", sum := "24712acb408bb0791156ec6415799d5d1ab518c1f6da1bd3eef5798050619396", func := "reelkeeper/reelkeeperlaw08.StreamData", spec := "streamData", inPlace := ["internal/bytealg.IndexByteString", "internal/bytealg.IndexString"], unfollowed := true, recurses := true, named := ["internal/bytealg.MaxLen"], apart := false }
def StreamDataSaid : Prop := streamDataRow.holds Try.pinned (OpenSpec.ofChange streamDataSpec)

/-- ITS FALSE NEIGHBOUR: 'it returns false'. Refute it at one input. -/
def streamDataWrong : ChangeSpec := { name := "streamData", fn := fun _ => fun
  | [d1, d2] => { results := [.lit (.bool false)], args := [d1, d2] }
  | _ => none }
def StreamDataWrongFalsely : Prop := streamDataRow.holds Try.pinned (OpenSpec.ofChange streamDataWrong)

/-- 'reelkeeperlaw08.StreamMany': WHATEVER THE INPUT: true; the input reads as it did. -/
def streamManySpec : ChangeSpec := { name := "streamMany", fn := fun _ => fun
  | [d1, d2] => { results := [.lit (.bool true)], args := [d1, d2] }
  | _ => none }
def streamManyRow : OpenClaim := { program := "ytlecnodlnkanaaa", sum := "24712acb408bb0791156ec6415799d5d1ab518c1f6da1bd3eef5798050619396", func := "reelkeeper/reelkeeperlaw08.StreamMany", spec := "streamMany", inPlace := ["internal/bytealg.IndexByteString", "internal/bytealg.IndexString"], unfollowed := true, recurses := true, named := ["internal/bytealg.MaxLen"], apart := false }
def StreamManySaid : Prop := streamManyRow.holds Try.pinned (OpenSpec.ofChange streamManySpec)

/-- ITS FALSE NEIGHBOUR: 'it returns false'. Refute it at one input. -/
def streamManyWrong : ChangeSpec := { name := "streamMany", fn := fun _ => fun
  | [d1, d2] => { results := [.lit (.bool false)], args := [d1, d2] }
  | _ => none }
def StreamManyWrongFalsely : Prop := streamManyRow.holds Try.pinned (OpenSpec.ofChange streamManyWrong)

/-- 'reelkeeperlaw08.StreamParts': WHATEVER THE INPUT: true; the input reads as it did. -/
def streamPartsSpec : ChangeSpec := { name := "streamParts", fn := fun _ => fun
  | [d1, d2] => { results := [.lit (.bool true)], args := [d1, d2] }
  | _ => none }
def streamPartsRow : OpenClaim := { program := "ytlecnodlnkanaaa", sum := "24712acb408bb0791156ec6415799d5d1ab518c1f6da1bd3eef5798050619396", func := "reelkeeper/reelkeeperlaw08.StreamParts", spec := "streamParts", inPlace := ["internal/bytealg.IndexByteString", "internal/bytealg.IndexString"], unfollowed := true, recurses := true, named := ["internal/bytealg.MaxLen"], apart := false }
def StreamPartsSaid : Prop := streamPartsRow.holds Try.pinned (OpenSpec.ofChange streamPartsSpec)

/-- ITS FALSE NEIGHBOUR: 'it returns false'. Refute it at one input. -/
def streamPartsWrong : ChangeSpec := { name := "streamParts", fn := fun _ => fun
  | [d1, d2] => { results := [.lit (.bool false)], args := [d1, d2] }
  | _ => none }
def StreamPartsWrongFalsely : Prop := streamPartsRow.holds Try.pinned (OpenSpec.ofChange streamPartsWrong)

/-- 'reelkeeperlaw08.StreamApart': WHATEVER THE INPUT: true; the input reads as it did. -/
def streamApartSpec : ChangeSpec := { name := "streamApart", fn := fun _ => fun
  | [d1, d2] => { results := [.lit (.bool true)], args := [d1, d2] }
  | _ => none }
def streamApartRow : OpenClaim := { program := "ytlecnodlnkanaaa", sum := "24712acb408bb0791156ec6415799d5d1ab518c1f6da1bd3eef5798050619396", func := "reelkeeper/reelkeeperlaw08.StreamApart", spec := "streamApart", inPlace := ["internal/bytealg.IndexByteString", "internal/bytealg.IndexString"], unfollowed := true, recurses := true, named := ["internal/bytealg.MaxLen"], apart := false }
def StreamApartSaid : Prop := streamApartRow.holds Try.pinned (OpenSpec.ofChange streamApartSpec)

/-- ITS FALSE NEIGHBOUR: 'it returns false'. Refute it at one input. -/
def streamApartWrong : ChangeSpec := { name := "streamApart", fn := fun _ => fun
  | [d1, d2] => { results := [.lit (.bool false)], args := [d1, d2] }
  | _ => none }
def StreamApartWrongFalsely : Prop := streamApartRow.holds Try.pinned (OpenSpec.ofChange streamApartWrong)

/-- 'reelkeeperlaw15.ContTells': WHATEVER THE INPUT: true; the input reads as it did. -/
def contTellsSpec : ChangeSpec := { name := "contTells", fn := fun _ => fun
  | [d1, d2, d3] => { results := [.lit (.bool true)], args := [d1, d2, d3] }
  | _ => none }
def contTellsRow : OpenClaim := { program := "ytlecnodlnkanaaa", sum := "24712acb408bb0791156ec6415799d5d1ab518c1f6da1bd3eef5798050619396", func := "reelkeeper/reelkeeperlaw15.ContTells", spec := "contTells", inPlace := ["internal/bytealg.IndexByteString", "internal/bytealg.IndexString", "internal/bytealg.IndexByte", "internal/bytealg.Index"], unfollowed := true, recurses := true, named := ["internal/bytealg.MaxLen"], apart := false }
def ContTellsSaid : Prop := contTellsRow.holds Try.pinned (OpenSpec.ofChange contTellsSpec)

/-- ITS FALSE NEIGHBOUR: 'it returns false'. Refute it at one input. -/
def contTellsWrong : ChangeSpec := { name := "contTells", fn := fun _ => fun
  | [d1, d2, d3] => { results := [.lit (.bool false)], args := [d1, d2, d3] }
  | _ => none }
def ContTellsWrongFalsely : Prop := contTellsRow.holds Try.pinned (OpenSpec.ofChange contTellsWrong)

/-- 'reelkeeperlaw15.ContHead': WHATEVER THE INPUT: true; the input reads as it did. -/
def contHeadSpec : ChangeSpec := { name := "contHead", fn := fun _ => fun
  | [d1, d2] => { results := [.lit (.bool true)], args := [d1, d2] }
  | _ => none }
def contHeadRow : OpenClaim := { program := "ytlecnodlnkanaaa", sum := "24712acb408bb0791156ec6415799d5d1ab518c1f6da1bd3eef5798050619396", func := "reelkeeper/reelkeeperlaw15.ContHead", spec := "contHead", inPlace := ["internal/bytealg.IndexByteString", "internal/bytealg.IndexString", "internal/bytealg.IndexByte", "internal/bytealg.Index"], unfollowed := true, recurses := true, named := ["internal/bytealg.MaxLen"], apart := false }
def ContHeadSaid : Prop := contHeadRow.holds Try.pinned (OpenSpec.ofChange contHeadSpec)

/-- ITS FALSE NEIGHBOUR: 'it returns false'. Refute it at one input. -/
def contHeadWrong : ChangeSpec := { name := "contHead", fn := fun _ => fun
  | [d1, d2] => { results := [.lit (.bool false)], args := [d1, d2] }
  | _ => none }
def ContHeadWrongFalsely : Prop := contHeadRow.holds Try.pinned (OpenSpec.ofChange contHeadWrong)

/-- 'reelkeeperlaw15.ContGot': WHATEVER THE INPUT: true; the input reads as it did. -/
def contGotSpec : ChangeSpec := { name := "contGot", fn := fun _ => fun
  | [d] => { results := [.lit (.bool true)], args := [d] }
  | _ => none }
def contGotRow : OpenClaim := { program := "ytlecnodlnkanaaa", sum := "24712acb408bb0791156ec6415799d5d1ab518c1f6da1bd3eef5798050619396", func := "reelkeeper/reelkeeperlaw15.ContGot", spec := "contGot", inPlace := ["internal/bytealg.IndexByteString", "internal/bytealg.IndexString", "internal/bytealg.IndexByte", "internal/bytealg.Index"], unfollowed := true, recurses := true, named := ["internal/bytealg.MaxLen"], apart := false }
def ContGotSaid : Prop := contGotRow.holds Try.pinned (OpenSpec.ofChange contGotSpec)

/-- ITS FALSE NEIGHBOUR: 'it returns false'. Refute it at one input. -/
def contGotWrong : ChangeSpec := { name := "contGot", fn := fun _ => fun
  | [d] => { results := [.lit (.bool false)], args := [d] }
  | _ => none }
def ContGotWrongFalsely : Prop := contGotRow.holds Try.pinned (OpenSpec.ofChange contGotWrong)

/-- 'reelkeeperlaw15.ContApart': WHATEVER THE INPUT: true; the input reads as it did. -/
def contApartSpec : ChangeSpec := { name := "contApart", fn := fun _ => fun
  | [d1, d2, d3, d4] => { results := [.lit (.bool true)], args := [d1, d2, d3, d4] }
  | _ => none }
def contApartRow : OpenClaim := { program := "ytlecnodlnkanaaa", sum := "24712acb408bb0791156ec6415799d5d1ab518c1f6da1bd3eef5798050619396", func := "reelkeeper/reelkeeperlaw15.ContApart", spec := "contApart", inPlace := ["internal/bytealg.IndexByteString", "internal/bytealg.IndexString", "internal/bytealg.IndexByte", "internal/bytealg.Index"], unfollowed := true, recurses := true, named := ["internal/bytealg.MaxLen"], apart := false }
def ContApartSaid : Prop := contApartRow.holds Try.pinned (OpenSpec.ofChange contApartSpec)

/-- ITS FALSE NEIGHBOUR: 'it returns false'. Refute it at one input. -/
def contApartWrong : ChangeSpec := { name := "contApart", fn := fun _ => fun
  | [d1, d2, d3, d4] => { results := [.lit (.bool false)], args := [d1, d2, d3, d4] }
  | _ => none }
def ContApartWrongFalsely : Prop := contApartRow.holds Try.pinned (OpenSpec.ofChange contApartWrong)

/-- 'reelkeeperlaw15.ContPlaces': WHATEVER THE INPUT: true; the input reads as it did. -/
def contPlacesSpec : ChangeSpec := { name := "contPlaces", fn := fun _ => fun
  | [d1, d2] => { results := [.lit (.bool true)], args := [d1, d2] }
  | _ => none }
def contPlacesRow : OpenClaim := { program := "ytlecnodlnkanaaa", sum := "24712acb408bb0791156ec6415799d5d1ab518c1f6da1bd3eef5798050619396", func := "reelkeeper/reelkeeperlaw15.ContPlaces", spec := "contPlaces", inPlace := ["internal/bytealg.IndexByteString", "internal/bytealg.IndexString", "internal/bytealg.IndexByte", "internal/bytealg.Index"], unfollowed := true, recurses := true, named := ["internal/bytealg.MaxLen"], apart := false }
def ContPlacesSaid : Prop := contPlacesRow.holds Try.pinned (OpenSpec.ofChange contPlacesSpec)

/-- ITS FALSE NEIGHBOUR: 'it returns false'. Refute it at one input. -/
def contPlacesWrong : ChangeSpec := { name := "contPlaces", fn := fun _ => fun
  | [d1, d2] => { results := [.lit (.bool false)], args := [d1, d2] }
  | _ => none }
def ContPlacesWrongFalsely : Prop := contPlacesRow.holds Try.pinned (OpenSpec.ofChange contPlacesWrong)

/-- 'reelkeeperlaw15.ContBack': WHATEVER THE INPUT: true; the input reads as it did. -/
def contBackSpec : ChangeSpec := { name := "contBack", fn := fun _ => fun
  | [d1, d2, d3] => { results := [.lit (.bool true)], args := [d1, d2, d3] }
  | _ => none }
def contBackRow : OpenClaim := { program := "ytlecnodlnkanaaa", sum := "24712acb408bb0791156ec6415799d5d1ab518c1f6da1bd3eef5798050619396", func := "reelkeeper/reelkeeperlaw15.ContBack", spec := "contBack", inPlace := ["internal/bytealg.IndexByteString", "internal/bytealg.IndexString", "internal/bytealg.IndexByte", "internal/bytealg.Index"], unfollowed := true, recurses := true, named := ["internal/bytealg.MaxLen"], apart := false }
def ContBackSaid : Prop := contBackRow.holds Try.pinned (OpenSpec.ofChange contBackSpec)

/-- ITS FALSE NEIGHBOUR: 'it returns false'. Refute it at one input. -/
def contBackWrong : ChangeSpec := { name := "contBack", fn := fun _ => fun
  | [d1, d2, d3] => { results := [.lit (.bool false)], args := [d1, d2, d3] }
  | _ => none }
def ContBackWrongFalsely : Prop := contBackRow.holds Try.pinned (OpenSpec.ofChange contBackWrong)

/- THE SECOND FORM. 'bulk': how many values and letters a reading holds, each counted each time it is reached (what is shared counts as often as it is met; a slice's spare places count too). A statement '..UptoSaid' is the law's where the arguments, and the package variables that the reading takes, are together of bulk at most 1048576: NARROWER than '..Said'. Prove '..Said' where nothing that the law and all that it calls make is longer than what came in: it says more and counts as full. Else prove '..UptoSaid'. A law counts once. -/
mutual
def uptoBulk {H : Type} : DataW H → Nat
  | .lit (.string bytes) => bytes.length + 1
  | .lit _ => 1
  | .nil => 1
  | .ptr d => uptoBulk d + 1
  | .slice elems spare => uptoBulkAll elems + uptoBulkAll spare + 1
  | .agg parts => uptoBulkAll parts + 1
  | .iface _ d => uptoBulk d + 1
  | .map entries => uptoBulkEntries entries + 1
  | .held _ => 1
def uptoBulkAll {H : Type} : List (DataW H) → Nat
  | [] => 0
  | d :: r => uptoBulk d + uptoBulkAll r
def uptoBulkEntries {H : Type} : List (Lit × DataW H) → Nat
  | [] => 0
  | x :: r => uptoBulkEntry x + uptoBulkEntries r
def uptoBulkEntry {H : Type} : Lit × DataW H → Nat
  | (.string bytes, d) => bytes.length + uptoBulk d + 1
  | (_, d) => uptoBulk d + 1
 end
def uptoSmall : (H : Type) → List (DataW H) → Bool := fun _ ds => decide (uptoBulkAll ds ≤ 1048576)
def OpenSpec.upto (s : _root_.Go.ChangeSpec) : _root_.Go.OpenSpec := { _root_.Go.OpenSpec.ofChange s with cond := some uptoSmall }

/-- 'reelkeeperlaw07.EntryTells', WHERE WHAT IT READS IS OF BULK AT MOST 1048576: true; the input reads as it did. -/
def entryTellsUptoRow : OpenClaim := { program := "ytlecnodlnkanaaa", sum := "24712acb408bb0791156ec6415799d5d1ab518c1f6da1bd3eef5798050619396", func := "reelkeeper/reelkeeperlaw07.EntryTells", spec := "entryTells", inPlace := ["internal/bytealg.IndexByteString", "internal/bytealg.IndexString"], unfollowed := true, recurses := true, named := ["internal/bytealg.MaxLen"], apart := false, narrowed := true }
def EntryTellsUptoSaid : Prop := entryTellsUptoRow.holds Try.pinned (OpenSpec.upto entryTellsSpec)

/-- 'reelkeeperlaw07.EntryApart', WHERE WHAT IT READS IS OF BULK AT MOST 1048576: true; the input reads as it did. -/
def entryApartUptoRow : OpenClaim := { program := "ytlecnodlnkanaaa", sum := "24712acb408bb0791156ec6415799d5d1ab518c1f6da1bd3eef5798050619396", func := "reelkeeper/reelkeeperlaw07.EntryApart", spec := "entryApart", inPlace := ["internal/bytealg.IndexByteString", "internal/bytealg.IndexString"], unfollowed := true, recurses := true, named := ["internal/bytealg.MaxLen"], apart := false, narrowed := true }
def EntryApartUptoSaid : Prop := entryApartUptoRow.holds Try.pinned (OpenSpec.upto entryApartSpec)

/-- 'reelkeeperlaw07.EntryMany', WHERE WHAT IT READS IS OF BULK AT MOST 1048576: true; the input reads as it did. -/
def entryManyUptoRow : OpenClaim := { program := "ytlecnodlnkanaaa", sum := "24712acb408bb0791156ec6415799d5d1ab518c1f6da1bd3eef5798050619396", func := "reelkeeper/reelkeeperlaw07.EntryMany", spec := "entryMany", inPlace := ["internal/bytealg.IndexByteString", "internal/bytealg.IndexString"], unfollowed := true, recurses := true, named := ["internal/bytealg.MaxLen"], apart := false, narrowed := true }
def EntryManyUptoSaid : Prop := entryManyUptoRow.holds Try.pinned (OpenSpec.upto entryManySpec)

/-- 'reelkeeperlaw07.EntryGrows', WHERE WHAT IT READS IS OF BULK AT MOST 1048576: true; the input reads as it did. -/
def entryGrowsUptoRow : OpenClaim := { program := "ytlecnodlnkanaaa", sum := "24712acb408bb0791156ec6415799d5d1ab518c1f6da1bd3eef5798050619396", func := "reelkeeper/reelkeeperlaw07.EntryGrows", spec := "entryGrows", inPlace := ["internal/bytealg.IndexByteString", "internal/bytealg.IndexString"], unfollowed := true, recurses := true, named := ["internal/bytealg.MaxLen"], apart := false, narrowed := true }
def EntryGrowsUptoSaid : Prop := entryGrowsUptoRow.holds Try.pinned (OpenSpec.upto entryGrowsSpec)

/-- 'reelkeeperlaw05.LongBack', WHERE WHAT IT READS IS OF BULK AT MOST 1048576: true; the input reads as it did. -/
def longBackUptoRow : OpenClaim := { program := "ytlecnodlnkanaaa", sum := "24712acb408bb0791156ec6415799d5d1ab518c1f6da1bd3eef5798050619396", func := "reelkeeper/reelkeeperlaw05.LongBack", spec := "longBack", inPlace := ["internal/bytealg.IndexByteString", "internal/bytealg.IndexString", "internal/bytealg.IndexByte", "internal/bytealg.Index"], unfollowed := true, recurses := true, named := ["internal/bytealg.MaxLen"], apart := false, narrowed := true }
def LongBackUptoSaid : Prop := longBackUptoRow.holds Try.pinned (OpenSpec.upto longBackSpec)

/-- 'reelkeeperlaw07.EntryFirst', WHERE WHAT IT READS IS OF BULK AT MOST 1048576: true; the input reads as it did. -/
def entryFirstUptoRow : OpenClaim := { program := "ytlecnodlnkanaaa", sum := "24712acb408bb0791156ec6415799d5d1ab518c1f6da1bd3eef5798050619396", func := "reelkeeper/reelkeeperlaw07.EntryFirst", spec := "entryFirst", inPlace := ["internal/bytealg.IndexByteString", "internal/bytealg.IndexString", "internal/bytealg.IndexByte", "internal/bytealg.Index"], unfollowed := true, recurses := true, named := ["internal/bytealg.MaxLen"], apart := false, narrowed := true }
def EntryFirstUptoSaid : Prop := entryFirstUptoRow.holds Try.pinned (OpenSpec.upto entryFirstSpec)

/-- 'reelkeeperlaw07.EntryHead', WHERE WHAT IT READS IS OF BULK AT MOST 1048576: true; the input reads as it did. -/
def entryHeadUptoRow : OpenClaim := { program := "ytlecnodlnkanaaa", sum := "24712acb408bb0791156ec6415799d5d1ab518c1f6da1bd3eef5798050619396", func := "reelkeeper/reelkeeperlaw07.EntryHead", spec := "entryHead", inPlace := ["internal/bytealg.IndexByteString", "internal/bytealg.IndexString", "internal/bytealg.IndexByte", "internal/bytealg.Index"], unfollowed := true, recurses := true, named := ["internal/bytealg.MaxLen"], apart := false, narrowed := true }
def EntryHeadUptoSaid : Prop := entryHeadUptoRow.holds Try.pinned (OpenSpec.upto entryHeadSpec)

/-- 'reelkeeperlaw08.StreamWhere', WHERE WHAT IT READS IS OF BULK AT MOST 1048576: true; the input reads as it did. -/
def streamWhereUptoRow : OpenClaim := { program := "ytlecnodlnkanaaa", sum := "24712acb408bb0791156ec6415799d5d1ab518c1f6da1bd3eef5798050619396", func := "reelkeeper/reelkeeperlaw08.StreamWhere", spec := "streamWhere", inPlace := ["internal/bytealg.IndexByteString", "internal/bytealg.IndexString"], unfollowed := true, recurses := true, named := ["internal/bytealg.MaxLen"], apart := false, narrowed := true }
def StreamWhereUptoSaid : Prop := streamWhereUptoRow.holds Try.pinned (OpenSpec.upto streamWhereSpec)

/-- 'reelkeeperlaw08.StreamData', WHERE WHAT IT READS IS OF BULK AT MOST 1048576: true; the input reads as it did. -/
def streamDataUptoRow : OpenClaim := { program := "ytlecnodlnkanaaa", sum := "24712acb408bb0791156ec6415799d5d1ab518c1f6da1bd3eef5798050619396", func := "reelkeeper/reelkeeperlaw08.StreamData", spec := "streamData", inPlace := ["internal/bytealg.IndexByteString", "internal/bytealg.IndexString"], unfollowed := true, recurses := true, named := ["internal/bytealg.MaxLen"], apart := false, narrowed := true }
def StreamDataUptoSaid : Prop := streamDataUptoRow.holds Try.pinned (OpenSpec.upto streamDataSpec)

/-- 'reelkeeperlaw08.StreamMany', WHERE WHAT IT READS IS OF BULK AT MOST 1048576: true; the input reads as it did. -/
def streamManyUptoRow : OpenClaim := { program := "ytlecnodlnkanaaa", sum := "24712acb408bb0791156ec6415799d5d1ab518c1f6da1bd3eef5798050619396", func := "reelkeeper/reelkeeperlaw08.StreamMany", spec := "streamMany", inPlace := ["internal/bytealg.IndexByteString", "internal/bytealg.IndexString"], unfollowed := true, recurses := true, named := ["internal/bytealg.MaxLen"], apart := false, narrowed := true }
def StreamManyUptoSaid : Prop := streamManyUptoRow.holds Try.pinned (OpenSpec.upto streamManySpec)

/-- 'reelkeeperlaw08.StreamParts', WHERE WHAT IT READS IS OF BULK AT MOST 1048576: true; the input reads as it did. -/
def streamPartsUptoRow : OpenClaim := { program := "ytlecnodlnkanaaa", sum := "24712acb408bb0791156ec6415799d5d1ab518c1f6da1bd3eef5798050619396", func := "reelkeeper/reelkeeperlaw08.StreamParts", spec := "streamParts", inPlace := ["internal/bytealg.IndexByteString", "internal/bytealg.IndexString"], unfollowed := true, recurses := true, named := ["internal/bytealg.MaxLen"], apart := false, narrowed := true }
def StreamPartsUptoSaid : Prop := streamPartsUptoRow.holds Try.pinned (OpenSpec.upto streamPartsSpec)

/-- 'reelkeeperlaw08.StreamApart', WHERE WHAT IT READS IS OF BULK AT MOST 1048576: true; the input reads as it did. -/
def streamApartUptoRow : OpenClaim := { program := "ytlecnodlnkanaaa", sum := "24712acb408bb0791156ec6415799d5d1ab518c1f6da1bd3eef5798050619396", func := "reelkeeper/reelkeeperlaw08.StreamApart", spec := "streamApart", inPlace := ["internal/bytealg.IndexByteString", "internal/bytealg.IndexString"], unfollowed := true, recurses := true, named := ["internal/bytealg.MaxLen"], apart := false, narrowed := true }
def StreamApartUptoSaid : Prop := streamApartUptoRow.holds Try.pinned (OpenSpec.upto streamApartSpec)

/-- 'reelkeeperlaw15.ContTells', WHERE WHAT IT READS IS OF BULK AT MOST 1048576: true; the input reads as it did. -/
def contTellsUptoRow : OpenClaim := { program := "ytlecnodlnkanaaa", sum := "24712acb408bb0791156ec6415799d5d1ab518c1f6da1bd3eef5798050619396", func := "reelkeeper/reelkeeperlaw15.ContTells", spec := "contTells", inPlace := ["internal/bytealg.IndexByteString", "internal/bytealg.IndexString", "internal/bytealg.IndexByte", "internal/bytealg.Index"], unfollowed := true, recurses := true, named := ["internal/bytealg.MaxLen"], apart := false, narrowed := true }
def ContTellsUptoSaid : Prop := contTellsUptoRow.holds Try.pinned (OpenSpec.upto contTellsSpec)

/-- 'reelkeeperlaw15.ContHead', WHERE WHAT IT READS IS OF BULK AT MOST 1048576: true; the input reads as it did. -/
def contHeadUptoRow : OpenClaim := { program := "ytlecnodlnkanaaa", sum := "24712acb408bb0791156ec6415799d5d1ab518c1f6da1bd3eef5798050619396", func := "reelkeeper/reelkeeperlaw15.ContHead", spec := "contHead", inPlace := ["internal/bytealg.IndexByteString", "internal/bytealg.IndexString", "internal/bytealg.IndexByte", "internal/bytealg.Index"], unfollowed := true, recurses := true, named := ["internal/bytealg.MaxLen"], apart := false, narrowed := true }
def ContHeadUptoSaid : Prop := contHeadUptoRow.holds Try.pinned (OpenSpec.upto contHeadSpec)

/-- 'reelkeeperlaw15.ContGot', WHERE WHAT IT READS IS OF BULK AT MOST 1048576: true; the input reads as it did. -/
def contGotUptoRow : OpenClaim := { program := "ytlecnodlnkanaaa", sum := "24712acb408bb0791156ec6415799d5d1ab518c1f6da1bd3eef5798050619396", func := "reelkeeper/reelkeeperlaw15.ContGot", spec := "contGot", inPlace := ["internal/bytealg.IndexByteString", "internal/bytealg.IndexString", "internal/bytealg.IndexByte", "internal/bytealg.Index"], unfollowed := true, recurses := true, named := ["internal/bytealg.MaxLen"], apart := false, narrowed := true }
def ContGotUptoSaid : Prop := contGotUptoRow.holds Try.pinned (OpenSpec.upto contGotSpec)

/-- 'reelkeeperlaw15.ContApart', WHERE WHAT IT READS IS OF BULK AT MOST 1048576: true; the input reads as it did. -/
def contApartUptoRow : OpenClaim := { program := "ytlecnodlnkanaaa", sum := "24712acb408bb0791156ec6415799d5d1ab518c1f6da1bd3eef5798050619396", func := "reelkeeper/reelkeeperlaw15.ContApart", spec := "contApart", inPlace := ["internal/bytealg.IndexByteString", "internal/bytealg.IndexString", "internal/bytealg.IndexByte", "internal/bytealg.Index"], unfollowed := true, recurses := true, named := ["internal/bytealg.MaxLen"], apart := false, narrowed := true }
def ContApartUptoSaid : Prop := contApartUptoRow.holds Try.pinned (OpenSpec.upto contApartSpec)

/-- 'reelkeeperlaw15.ContPlaces', WHERE WHAT IT READS IS OF BULK AT MOST 1048576: true; the input reads as it did. -/
def contPlacesUptoRow : OpenClaim := { program := "ytlecnodlnkanaaa", sum := "24712acb408bb0791156ec6415799d5d1ab518c1f6da1bd3eef5798050619396", func := "reelkeeper/reelkeeperlaw15.ContPlaces", spec := "contPlaces", inPlace := ["internal/bytealg.IndexByteString", "internal/bytealg.IndexString", "internal/bytealg.IndexByte", "internal/bytealg.Index"], unfollowed := true, recurses := true, named := ["internal/bytealg.MaxLen"], apart := false, narrowed := true }
def ContPlacesUptoSaid : Prop := contPlacesUptoRow.holds Try.pinned (OpenSpec.upto contPlacesSpec)

/-- 'reelkeeperlaw15.ContBack', WHERE WHAT IT READS IS OF BULK AT MOST 1048576: true; the input reads as it did. -/
def contBackUptoRow : OpenClaim := { program := "ytlecnodlnkanaaa", sum := "24712acb408bb0791156ec6415799d5d1ab518c1f6da1bd3eef5798050619396", func := "reelkeeper/reelkeeperlaw15.ContBack", spec := "contBack", inPlace := ["internal/bytealg.IndexByteString", "internal/bytealg.IndexString", "internal/bytealg.IndexByte", "internal/bytealg.Index"], unfollowed := true, recurses := true, named := ["internal/bytealg.MaxLen"], apart := false, narrowed := true }
def ContBackUptoSaid : Prop := contBackUptoRow.holds Try.pinned (OpenSpec.upto contBackSpec)

end Rows
end Go.Proofs.Ytlecnodlnkanaaa
