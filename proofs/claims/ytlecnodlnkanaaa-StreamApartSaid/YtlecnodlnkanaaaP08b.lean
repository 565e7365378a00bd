/- Streams compared, plainly. -/
import Derived.Test.YtlecnodlnkanaaaXK
import Derived.Test.YtlecnodlnkanaaaXGtree
import Derived.Test.YtlecnodlnkanaaaXGtree
import Derived.Test.YtlecnodlnkanaaaXGhead
import Derived.Test.YtlecnodlnkanaaaXGnum
import Derived.Test.YtlecnodlnkanaaaXGlong
import Derived.Test.YtlecnodlnkanaaaXGlong
import Derived.Test.YtlecnodlnkanaaaXGblock
import Derived.Test.YtlecnodlnkanaaaXGtree
import Derived.Test.YtlecnodlnkanaaaXGslices
import Derived.Test.YtlecnodlnkanaaaXGreelkeeperref03
import Derived.Test.YtlecnodlnkanaaaYAll
import Derived.Test.YtlecnodlnkanaaaYAll
import Derived.Test.YtlecnodlnkanaaaYAll
import Derived.Test.YtlecnodlnkanaaaYAll
import Derived.Test.YtlecnodlnkanaaaPGA
import Derived.Test.YtlecnodlnkanaaaPGA
import Derived.Test.YtlecnodlnkanaaaP02p
import Derived.Test.YtlecnodlnkanaaaPGA
import Derived.Test.YtlecnodlnkanaaaPGA
import Derived.Test.YtlecnodlnkanaaaPGA
import Derived.Test.YtlecnodlnkanaaaPGA
import Derived.Test.YtlecnodlnkanaaaPGA
import Derived.Test.YtlecnodlnkanaaaPGA
import Derived.Test.YtlecnodlnkanaaaPGA
import Derived.Test.YtlecnodlnkanaaaPGA
import Derived.Test.YtlecnodlnkanaaaPGA
import Derived.Test.YtlecnodlnkanaaaPGA
import Derived.Test.YtlecnodlnkanaaaPGA
import Derived.Test.YtlecnodlnkanaaaP06a
import Derived.Test.YtlecnodlnkanaaaP06k
import Derived.Test.YtlecnodlnkanaaaPGE
import Derived.Test.YtlecnodlnkanaaaPGE
import Derived.Test.YtlecnodlnkanaaaPGE
import Derived.Test.YtlecnodlnkanaaaPGE
import Derived.Test.YtlecnodlnkanaaaPGE
import Derived.Test.YtlecnodlnkanaaaP08a
import Derived.Lib.IndexAny
namespace Go.Proofs.Ytlecnodlnkanaaa.X
open Go.RowKit Go.Proofs.YtlecnodlnkanaaaW.PrintWords Go.Proofs.YtlecnodlnkanaaaW.PrintLast Go.Proofs.YtlecnodlnkanaaaW.PrintMore
attribute [local go_sem] max2_int min2_int max_two min_two
set_option linter.unusedVariables false
set_option linter.unusedSimpArgs false

open Go.Proofs.YtlecnodlnkanaaaY
theorem stream_bytes {t : List Nd} (h : ∀ x ∈ t, oneB x = true) : ∀ x ∈ bodyB t ++ zeroB, byteOk x := by
  intro x hx
  rcases List.mem_append.1 hx with hx | hx
  · exact bodyB_bytes t (fun n hn => oneB_facts (h n hn)) x hx
  · exact zeroB_bytes x hx
theorem stream_same {t u : List Nd} (ht : ∀ x ∈ t, oneB x = true) (hu : ∀ x ∈ u, oneB x = true) : sameF (bodyB t ++ zeroB) (bodyB u ++ zeroB) = sameB t u := by
  rw [sameF_bytes (stream_bytes ht) (stream_bytes hu)]
  cases hs : sameB t u with
  | true => rw [(sameB_iff t u).1 hs]; exact decide_eq_true rfl
  | false =>
    refine decide_eq_false fun e => ?_
    have := bodyB_inj (fun n hn => oneB_facts (ht n hn)) (fun n hn => oneB_facts (hu n hn)) e
    rw [(sameB_iff t u).2 this] at hs
    cases hs

end Go.Proofs.Ytlecnodlnkanaaa.X
