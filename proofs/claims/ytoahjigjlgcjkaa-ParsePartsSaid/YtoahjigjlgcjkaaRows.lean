/-
  No cell of these rows narrows 'for every input' (looked for: loops, veiled, ifaces, maps, wideKeys, modest, calm, conditions, laid).
  DERIVED. THE GIVEN ROWS OF THIS SEAT. 7 by the template 'for every input the law returns true; each argument reads behind the call as it read before'; 0 by the template 'total and deterministic' (their statements: YtoahjigjlgcjkaaTotals.lean).
  GIVEN WITH THE SEED: the statements are not yours to turn. If you find one false, say at which input.
  Laid BY PROGRAM, IN A SANDBOX (cutbox-rows.mjs): the forced cells as the released guide's own fill.sh prints them over the translation 93542001d50b232e… (all of the seat's roots in one cut). By AI agents, Wed Nov 11 2026. No macro, syntax, notation, axiom, sorry.
-/
import Derived.Test.YtoahjigjlgcjkaaChecked
import GoSem.Claim
import GoSem.ClaimJoined
import GoSem.ClaimMapViews
import Derived.JoinedTies
import Derived.KernelRfl
namespace Go.Proofs.Ytoahjigjlgcjkaa
/- THE CELL 'sum', in the pinned program and in every row, IS THE sha256 OF THE DUMP (.gsa) THAT YtoahjigjlgcjkaaProg.lean LOADS. Nothing in Lean hashes anything: it is a label: what it is worth is what the hold of that sum in a sandbox is worth. -/
noncomputable def Try.pinned : Pinned := { name := "ytoahjigjlgcjkaa", sum := "93542001d50b232ef0c274a2ade1e4a0c122be90164b5ed1c24551b155fdf0e1", checked := Try.checked }
namespace Rows
def none {H : Type} : Left H := { results := [], args := [] }

/-- 'reelkeeperlaw09.ParseStays': WHATEVER THE INPUT: true; the input reads as it did. -/
def parseStaysSpec : ChangeSpec := { name := "parseStays", fn := fun _ => fun
  | [d1, d2] => { results := [.lit (.bool true)], args := [d1, d2] }
  | _ => none }
def parseStaysRow : OpenClaim := { program := "ytoahjigjlgcjkaa", sum := "93542001d50b232ef0c274a2ade1e4a0c122be90164b5ed1c24551b155fdf0e1", func := "reelkeeper/reelkeeperlaw09.ParseStays", spec := "parseStays", inPlace := ["internal/bytealg.IndexByteString", "internal/bytealg.IndexString", "internal/bytealg.IndexByte", "internal/bytealg.Index"], unfollowed := true, recurses := true, named := ["internal/bytealg.MaxLen"], apart := false }
def ParseStaysSaid : Prop := parseStaysRow.holds Try.pinned (OpenSpec.ofChange parseStaysSpec)

/-- ITS FALSE NEIGHBOUR: 'it returns false'. Refute it at one input. -/
def parseStaysWrong : ChangeSpec := { name := "parseStays", fn := fun _ => fun
  | [d1, d2] => { results := [.lit (.bool false)], args := [d1, d2] }
  | _ => none }
def ParseStaysWrongFalsely : Prop := parseStaysRow.holds Try.pinned (OpenSpec.ofChange parseStaysWrong)

/-- 'reelkeeperlaw09.ParseSafe': WHATEVER THE INPUT: true; the input reads as it did. -/
def parseSafeSpec : ChangeSpec := { name := "parseSafe", fn := fun _ => fun
  | [d1, d2] => { results := [.lit (.bool true)], args := [d1, d2] }
  | _ => none }
def parseSafeRow : OpenClaim := { program := "ytoahjigjlgcjkaa", sum := "93542001d50b232ef0c274a2ade1e4a0c122be90164b5ed1c24551b155fdf0e1", func := "reelkeeper/reelkeeperlaw09.ParseSafe", spec := "parseSafe", inPlace := ["internal/bytealg.IndexByteString", "internal/bytealg.IndexString", "internal/bytealg.IndexByte", "internal/bytealg.Index"], unfollowed := true, recurses := true, named := ["internal/bytealg.MaxLen"], apart := false }
def ParseSafeSaid : Prop := parseSafeRow.holds Try.pinned (OpenSpec.ofChange parseSafeSpec)

/-- ITS FALSE NEIGHBOUR: 'it returns false'. Refute it at one input. -/
def parseSafeWrong : ChangeSpec := { name := "parseSafe", fn := fun _ => fun
  | [d1, d2] => { results := [.lit (.bool false)], args := [d1, d2] }
  | _ => none }
def ParseSafeWrongFalsely : Prop := parseSafeRow.holds Try.pinned (OpenSpec.ofChange parseSafeWrong)

/-- 'reelkeeperlaw09.ParseLeft': WHATEVER THE INPUT: true; the input reads as it did. -/
def parseLeftSpec : ChangeSpec := { name := "parseLeft", fn := fun _ => fun
  | [d1, d2] => { results := [.lit (.bool true)], args := [d1, d2] }
  | _ => none }
def parseLeftRow : OpenClaim := { program := "ytoahjigjlgcjkaa", sum := "93542001d50b232ef0c274a2ade1e4a0c122be90164b5ed1c24551b155fdf0e1", func := "reelkeeper/reelkeeperlaw09.ParseLeft", spec := "parseLeft", inPlace := ["internal/bytealg.IndexByteString", "internal/bytealg.IndexString", "internal/bytealg.IndexByte", "internal/bytealg.Index"], unfollowed := true, recurses := true, named := ["internal/bytealg.MaxLen"], apart := false }
def ParseLeftSaid : Prop := parseLeftRow.holds Try.pinned (OpenSpec.ofChange parseLeftSpec)

/-- ITS FALSE NEIGHBOUR: 'it returns false'. Refute it at one input. -/
def parseLeftWrong : ChangeSpec := { name := "parseLeft", fn := fun _ => fun
  | [d1, d2] => { results := [.lit (.bool false)], args := [d1, d2] }
  | _ => none }
def ParseLeftWrongFalsely : Prop := parseLeftRow.holds Try.pinned (OpenSpec.ofChange parseLeftWrong)

/-- 'reelkeeperlaw09.ParseParts': WHATEVER THE INPUT: true; the input reads as it did. -/
def parsePartsSpec : ChangeSpec := { name := "parseParts", fn := fun _ => fun
  | [d1, d2, d3] => { results := [.lit (.bool true)], args := [d1, d2, d3] }
  | _ => none }
def parsePartsRow : OpenClaim := { program := "ytoahjigjlgcjkaa", sum := "93542001d50b232ef0c274a2ade1e4a0c122be90164b5ed1c24551b155fdf0e1", func := "reelkeeper/reelkeeperlaw09.ParseParts", spec := "parseParts", inPlace := ["internal/bytealg.IndexByteString", "internal/bytealg.IndexString", "internal/bytealg.IndexByte", "internal/bytealg.Index"], unfollowed := true, recurses := true, named := ["internal/bytealg.MaxLen"], apart := false }
def ParsePartsSaid : Prop := parsePartsRow.holds Try.pinned (OpenSpec.ofChange parsePartsSpec)

/-- ITS FALSE NEIGHBOUR: 'it returns false'. Refute it at one input. -/
def parsePartsWrong : ChangeSpec := { name := "parseParts", fn := fun _ => fun
  | [d1, d2, d3] => { results := [.lit (.bool false)], args := [d1, d2, d3] }
  | _ => none }
def ParsePartsWrongFalsely : Prop := parsePartsRow.holds Try.pinned (OpenSpec.ofChange parsePartsWrong)

/-- 'reelkeeperlaw09.ParseNode': WHATEVER THE INPUT: true; the input reads as it did. -/
def parseNodeSpec : ChangeSpec := { name := "parseNode", fn := fun _ => fun
  | [d] => { results := [.lit (.bool true)], args := [d] }
  | _ => none }
def parseNodeRow : OpenClaim := { program := "ytoahjigjlgcjkaa", sum := "93542001d50b232ef0c274a2ade1e4a0c122be90164b5ed1c24551b155fdf0e1", func := "reelkeeper/reelkeeperlaw09.ParseNode", spec := "parseNode", inPlace := ["internal/bytealg.IndexByteString", "internal/bytealg.IndexString", "internal/bytealg.IndexByte", "internal/bytealg.Index"], unfollowed := true, recurses := true, named := ["internal/bytealg.MaxLen"], apart := false }
def ParseNodeSaid : Prop := parseNodeRow.holds Try.pinned (OpenSpec.ofChange parseNodeSpec)

/-- ITS FALSE NEIGHBOUR: 'it returns false'. Refute it at one input. -/
def parseNodeWrong : ChangeSpec := { name := "parseNode", fn := fun _ => fun
  | [d] => { results := [.lit (.bool false)], args := [d] }
  | _ => none }
def ParseNodeWrongFalsely : Prop := parseNodeRow.holds Try.pinned (OpenSpec.ofChange parseNodeWrong)

/-- 'reelkeeperlaw09.ParseTypes': WHATEVER THE INPUT: true; the input reads as it did. -/
def parseTypesSpec : ChangeSpec := { name := "parseTypes", fn := fun _ => fun
  | [d1, d2] => { results := [.lit (.bool true)], args := [d1, d2] }
  | _ => none }
def parseTypesRow : OpenClaim := { program := "ytoahjigjlgcjkaa", sum := "93542001d50b232ef0c274a2ade1e4a0c122be90164b5ed1c24551b155fdf0e1", func := "reelkeeper/reelkeeperlaw09.ParseTypes", spec := "parseTypes", inPlace := ["internal/bytealg.IndexByteString", "internal/bytealg.IndexString", "internal/bytealg.IndexByte", "internal/bytealg.Index"], unfollowed := true, recurses := true, named := ["internal/bytealg.MaxLen"], apart := false }
def ParseTypesSaid : Prop := parseTypesRow.holds Try.pinned (OpenSpec.ofChange parseTypesSpec)

/-- ITS FALSE NEIGHBOUR: 'it returns false'. Refute it at one input. -/
def parseTypesWrong : ChangeSpec := { name := "parseTypes", fn := fun _ => fun
  | [d1, d2] => { results := [.lit (.bool false)], args := [d1, d2] }
  | _ => none }
def ParseTypesWrongFalsely : Prop := parseTypesRow.holds Try.pinned (OpenSpec.ofChange parseTypesWrong)

/-- 'reelkeeperlaw09.ParseEnds': WHATEVER THE INPUT: true; the input reads as it did. -/
def parseEndsSpec : ChangeSpec := { name := "parseEnds", fn := fun _ => fun
  | [d1, d2] => { results := [.lit (.bool true)], args := [d1, d2] }
  | _ => none }
def parseEndsRow : OpenClaim := { program := "ytoahjigjlgcjkaa", sum := "93542001d50b232ef0c274a2ade1e4a0c122be90164b5ed1c24551b155fdf0e1", func := "reelkeeper/reelkeeperlaw09.ParseEnds", spec := "parseEnds", inPlace := ["internal/bytealg.IndexByteString", "internal/bytealg.IndexString", "internal/bytealg.IndexByte", "internal/bytealg.Index"], unfollowed := true, recurses := true, named := ["internal/bytealg.MaxLen"], apart := false }
def ParseEndsSaid : Prop := parseEndsRow.holds Try.pinned (OpenSpec.ofChange parseEndsSpec)

/-- ITS FALSE NEIGHBOUR: 'it returns false'. Refute it at one input. -/
def parseEndsWrong : ChangeSpec := { name := "parseEnds", fn := fun _ => fun
  | [d1, d2] => { results := [.lit (.bool false)], args := [d1, d2] }
  | _ => none }
def ParseEndsWrongFalsely : Prop := parseEndsRow.holds Try.pinned (OpenSpec.ofChange parseEndsWrong)

/- THE SECOND FORM. 'bulk': how many values and letters a reading holds, each counted each time it is reached (what is shared counts as often as it is met; a slice's spare places count too). A statement '..UptoSaid' is the law's where the arguments, and the package variables that the reading takes, are together of bulk at most 1048576: NARROWER than '..Said'. Prove '..Said' where nothing that the law and all that it calls make is longer than what came in: it says more and counts as full. Else prove '..UptoSaid'. A law counts once. -/
mutual
def uptoBulk {H : Type} : DataW H → Nat
  | .lit (.string bytes) => bytes.length + 1
  | .lit _ => 1
  | .nil => 1
  | .ptr d => uptoBulk d + 1
  | .slice elems spare => uptoBulkAll elems + uptoBulkAll spare + 1
  | .agg parts => uptoBulkAll parts + 1
  | .iface _ d => uptoBulk d + 1
  | .map entries => uptoBulkEntries entries + 1
  | .held _ => 1
def uptoBulkAll {H : Type} : List (DataW H) → Nat
  | [] => 0
  | d :: r => uptoBulk d + uptoBulkAll r
def uptoBulkEntries {H : Type} : List (Lit × DataW H) → Nat
  | [] => 0
  | x :: r => uptoBulkEntry x + uptoBulkEntries r
def uptoBulkEntry {H : Type} : Lit × DataW H → Nat
  | (.string bytes, d) => bytes.length + uptoBulk d + 1
  | (_, d) => uptoBulk d + 1
 end
def uptoSmall : (H : Type) → List (DataW H) → Bool := fun _ ds => decide (uptoBulkAll ds ≤ 1048576)
def OpenSpec.upto (s : _root_.Go.ChangeSpec) : _root_.Go.OpenSpec := { _root_.Go.OpenSpec.ofChange s with cond := some uptoSmall }

/-- 'reelkeeperlaw09.ParseStays', WHERE WHAT IT READS IS OF BULK AT MOST 1048576: true; the input reads as it did. -/
def parseStaysUptoRow : OpenClaim := { program := "ytoahjigjlgcjkaa", sum := "93542001d50b232ef0c274a2ade1e4a0c122be90164b5ed1c24551b155fdf0e1", func := "reelkeeper/reelkeeperlaw09.ParseStays", spec := "parseStays", inPlace := ["internal/bytealg.IndexByteString", "internal/bytealg.IndexString", "internal/bytealg.IndexByte", "internal/bytealg.Index"], unfollowed := true, recurses := true, named := ["internal/bytealg.MaxLen"], apart := false, narrowed := true }
def ParseStaysUptoSaid : Prop := parseStaysUptoRow.holds Try.pinned (OpenSpec.upto parseStaysSpec)

/-- 'reelkeeperlaw09.ParseSafe', WHERE WHAT IT READS IS OF BULK AT MOST 1048576: true; the input reads as it did. -/
def parseSafeUptoRow : OpenClaim := { program := "ytoahjigjlgcjkaa", sum := "93542001d50b232ef0c274a2ade1e4a0c122be90164b5ed1c24551b155fdf0e1", func := "reelkeeper/reelkeeperlaw09.ParseSafe", spec := "parseSafe", inPlace := ["internal/bytealg.IndexByteString", "internal/bytealg.IndexString", "internal/bytealg.IndexByte", "internal/bytealg.Index"], unfollowed := true, recurses := true, named := ["internal/bytealg.MaxLen"], apart := false, narrowed := true }
def ParseSafeUptoSaid : Prop := parseSafeUptoRow.holds Try.pinned (OpenSpec.upto parseSafeSpec)

/-- 'reelkeeperlaw09.ParseLeft', WHERE WHAT IT READS IS OF BULK AT MOST 1048576: true; the input reads as it did. -/
def parseLeftUptoRow : OpenClaim := { program := "ytoahjigjlgcjkaa", sum := "93542001d50b232ef0c274a2ade1e4a0c122be90164b5ed1c24551b155fdf0e1", func := "reelkeeper/reelkeeperlaw09.ParseLeft", spec := "parseLeft", inPlace := ["internal/bytealg.IndexByteString", "internal/bytealg.IndexString", "internal/bytealg.IndexByte", "internal/bytealg.Index"], unfollowed := true, recurses := true, named := ["internal/bytealg.MaxLen"], apart := false, narrowed := true }
def ParseLeftUptoSaid : Prop := parseLeftUptoRow.holds Try.pinned (OpenSpec.upto parseLeftSpec)

/-- 'reelkeeperlaw09.ParseParts', WHERE WHAT IT READS IS OF BULK AT MOST 1048576: true; the input reads as it did. -/
def parsePartsUptoRow : OpenClaim := { program := "ytoahjigjlgcjkaa", sum := "93542001d50b232ef0c274a2ade1e4a0c122be90164b5ed1c24551b155fdf0e1", func := "reelkeeper/reelkeeperlaw09.ParseParts", spec := "parseParts", inPlace := ["internal/bytealg.IndexByteString", "internal/bytealg.IndexString", "internal/bytealg.IndexByte", "internal/bytealg.Index"], unfollowed := true, recurses := true, named := ["internal/bytealg.MaxLen"], apart := false, narrowed := true }
def ParsePartsUptoSaid : Prop := parsePartsUptoRow.holds Try.pinned (OpenSpec.upto parsePartsSpec)

/-- 'reelkeeperlaw09.ParseNode', WHERE WHAT IT READS IS OF BULK AT MOST 1048576: true; the input reads as it did. -/
def parseNodeUptoRow : OpenClaim := { program := "ytoahjigjlgcjkaa", sum := "93542001d50b232ef0c274a2ade1e4a0c122be90164b5ed1c24551b155fdf0e1", func := "reelkeeper/reelkeeperlaw09.ParseNode", spec := "parseNode", inPlace := ["internal/bytealg.IndexByteString", "internal/bytealg.IndexString", "internal/bytealg.IndexByte", "internal/bytealg.Index"], unfollowed := true, recurses := true, named := ["internal/bytealg.MaxLen"], apart := false, narrowed := true }
def ParseNodeUptoSaid : Prop := parseNodeUptoRow.holds Try.pinned (OpenSpec.upto parseNodeSpec)

/-- 'reelkeeperlaw09.ParseTypes', WHERE WHAT IT READS IS OF BULK AT MOST 1048576: true; the input reads as it did. -/
def parseTypesUptoRow : OpenClaim := { program := "ytoahjigjlgcjkaa", sum := "93542001d50b232ef0c274a2ade1e4a0c122be90164b5ed1c24551b155fdf0e1", func := "reelkeeper/reelkeeperlaw09.ParseTypes", spec := "parseTypes", inPlace := ["internal/bytealg.IndexByteString", "internal/bytealg.IndexString", "internal/bytealg.IndexByte", "internal/bytealg.Index"], unfollowed := true, recurses := true, named := ["internal/bytealg.MaxLen"], apart := false, narrowed := true }
def ParseTypesUptoSaid : Prop := parseTypesUptoRow.holds Try.pinned (OpenSpec.upto parseTypesSpec)

/-- 'reelkeeperlaw09.ParseEnds', WHERE WHAT IT READS IS OF BULK AT MOST 1048576: true; the input reads as it did. -/
def parseEndsUptoRow : OpenClaim := { program := "ytoahjigjlgcjkaa", sum := "93542001d50b232ef0c274a2ade1e4a0c122be90164b5ed1c24551b155fdf0e1", func := "reelkeeper/reelkeeperlaw09.ParseEnds", spec := "parseEnds", inPlace := ["internal/bytealg.IndexByteString", "internal/bytealg.IndexString", "internal/bytealg.IndexByte", "internal/bytealg.Index"], unfollowed := true, recurses := true, named := ["internal/bytealg.MaxLen"], apart := false, narrowed := true }
def ParseEndsUptoSaid : Prop := parseEndsUptoRow.holds Try.pinned (OpenSpec.upto parseEndsSpec)

end Rows
end Go.Proofs.Ytoahjigjlgcjkaa
