-- Words of the print, shortened to what this seat's texts name (by wip/tools/shake.py).
import Derived.Test.YtpedagpcblnnhaaWLast
import Derived.Test.YtpedagpcblnnhaaWWords
/-! ### 50. A region's order in a table, made once a region: each step asks the table (numbers alone), not the operations -/
namespace Go.Proofs.YtpedagpcblnnhaaW.PrintLast
open Go.Proofs.YtpedagpcblnnhaaW.PrintWords (Aside0)
section
variable {md : Region.Mode} {ops : Array Oper} {T : Bool × List (List Nat × List Nat)} {l l' li lj lk : Array Bool} {ds : List Nat} {i j k : Nat}
end
end Go.Proofs.YtpedagpcblnnhaaW.PrintLast
