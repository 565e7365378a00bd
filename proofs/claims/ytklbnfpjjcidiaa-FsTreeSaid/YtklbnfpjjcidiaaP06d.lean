/- The first nodes of a tree, plainly. -/
import Derived.Test.YtklbnfpjjcidiaaXK
import Derived.Test.YtklbnfpjjcidiaaXGtree
import Derived.Test.YtklbnfpjjcidiaaXGtree
import Derived.Test.YtklbnfpjjcidiaaXreelkeeperlaw06Few
import Derived.Test.YtklbnfpjjcidiaaXGpath
import Derived.Test.YtklbnfpjjcidiaaYAll
import Derived.Test.YtklbnfpjjcidiaaYAll
import Derived.Test.YtklbnfpjjcidiaaPGA
import Derived.Test.YtklbnfpjjcidiaaPGA
import Derived.Test.YtklbnfpjjcidiaaP02p
import Derived.Test.YtklbnfpjjcidiaaP06a
namespace Go.Proofs.Ytklbnfpjjcidiaa.X
open Go.RowKit Go.Proofs.YtklbnfpjjcidiaaW.PrintWords Go.Proofs.YtklbnfpjjcidiaaW.PrintLast Go.Proofs.YtklbnfpjjcidiaaW.PrintMore
attribute [local go_sem] max2_int min2_int max_two min_two
set_option linter.unusedVariables false
set_option linter.unusedSimpArgs false

open Go.Proofs.YtklbnfpjjcidiaaY
theorem mayT_append : ∀ (a b pre : List Nd) (last : ByteArray), mayT pre last (a ++ b) = (mayT pre last a && mayT (pre ++ a) (a.foldl (fun _ n => n.f0) last) b)
  | [], b, pre, last => by simp [mayT]
  | n :: t, b, pre, last => by
    simp only [List.cons_append, mayT, List.foldl_cons]
    rw [mayT_append t b (pre ++ [n]) n.f0, Bool.and_assoc, List.append_assoc]
    rfl
theorem mayT_take {l : List Nd} (h : mayT [] ⟨#[]⟩ l = true) (i : Nat) : mayT [] ⟨#[]⟩ (l.take i) = true := by
  have e : l = l.take i ++ l.drop i := (List.take_append_drop i l).symm
  rw [e, mayT_append, Bool.and_eq_true] at h
  exact h.1

end Go.Proofs.Ytklbnfpjjcidiaa.X
