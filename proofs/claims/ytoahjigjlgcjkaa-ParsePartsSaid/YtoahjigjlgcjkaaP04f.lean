/- Numbers, read, plainly. -/
import Derived.Test.YtoahjigjlgcjkaaXK
import Derived.Test.YtoahjigjlgcjkaaXGnum
import Derived.Test.YtoahjigjlgcjkaaYAll
namespace Go.Proofs.Ytoahjigjlgcjkaa.X
open Go.RowKit Go.Proofs.YtoahjigjlgcjkaaW.PrintWords Go.Proofs.YtoahjigjlgcjkaaW.PrintLast Go.Proofs.YtoahjigjlgcjkaaW.PrintMore
attribute [local go_sem] max2_int min2_int max_two min_two
set_option linter.unusedVariables false
set_option linter.unusedSimpArgs false

open Go.Proofs.YtoahjigjlgcjkaaY
/-- What is read of a number's bytes, one behind the other (b: digits, else bytes). -/
def getL (b : Bool) : List Int → Int → Option Int
  | [], n => some n
  | c :: r, n => if (n ≥ 36028797018963968 ∧ b = false) ∨ n ≥ 1152921504606846976 then none else getL b r (wrap64 (wrap64 (n * (if b = true then 8 else 256)) + (if b = true then (c - 48) % 256 else c)))
def getV (l : List Int) : Option Int := if l.getD 0 0 = 128 then getL false l.tail 0 else getL true l.dropLast 0
/-- What num.Get tells. -/
def getN (l : List Int) : Int × Bool :=
  if l.length < 2 ∨ 20 < l.length then (0, false) else match getV l with
    | none => (0, false)
    | some n => if (putN n l.length).2 = true ∧ (putN n l.length).1 = l then (n, true) else (0, false)

end Go.Proofs.Ytoahjigjlgcjkaa.X
