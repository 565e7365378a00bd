/- A second long name, plainly. -/
import Derived.Test.YtoahjigjlgcjkaaXK
import Derived.Test.YtoahjigjlgcjkaaXGpj
import Derived.Test.YtoahjigjlgcjkaaXGentry
import Derived.Test.YtoahjigjlgcjkaaYAll
import Derived.Test.YtoahjigjlgcjkaaYAll
import Derived.Test.YtoahjigjlgcjkaaYAll
import Derived.Test.YtoahjigjlgcjkaaYAll
import Derived.Test.YtoahjigjlgcjkaaPGA
import Derived.Test.YtoahjigjlgcjkaaPGA
import Derived.Test.YtoahjigjlgcjkaaPGA
import Derived.Test.YtoahjigjlgcjkaaPGA
import Derived.Test.YtoahjigjlgcjkaaPGA
import Derived.Test.YtoahjigjlgcjkaaPGA
import Derived.Test.YtoahjigjlgcjkaaPGA
import Derived.Test.YtoahjigjlgcjkaaPGA
import Derived.Test.YtoahjigjlgcjkaaPGA
import Derived.Test.YtoahjigjlgcjkaaPGA
import Derived.Test.YtoahjigjlgcjkaaPGA
import Derived.Test.YtoahjigjlgcjkaaPGA
import Derived.Test.YtoahjigjlgcjkaaPGA
import Derived.Test.YtoahjigjlgcjkaaPGA
import Derived.Test.YtoahjigjlgcjkaaPGE
import Derived.Test.YtoahjigjlgcjkaaPGE
import Derived.Test.YtoahjigjlgcjkaaPGE
import Derived.Test.YtoahjigjlgcjkaaPGE
import Derived.Test.YtoahjigjlgcjkaaP04f
import Derived.Test.YtoahjigjlgcjkaaP04g
import Derived.Test.YtoahjigjlgcjkaaPGE
import Derived.Test.YtoahjigjlgcjkaaPGE
import Derived.Test.YtoahjigjlgcjkaaP09a
namespace Go.Proofs.Ytoahjigjlgcjkaa.X
open Go.RowKit Go.Proofs.YtoahjigjlgcjkaaW.PrintWords Go.Proofs.YtoahjigjlgcjkaaW.PrintLast Go.Proofs.YtoahjigjlgcjkaaW.PrintMore
attribute [local go_sem] max2_int min2_int max_two min_two
set_option linter.unusedVariables false
set_option linter.unusedSimpArgs false

open Go.Proofs.YtoahjigjlgcjkaaY
set_option maxRecDepth 100000
theorem headGet_512 {x : List Int} {hd : Hd} (h : headGet x = (hd, 0)) : x.length = 512 := by
  by_cases c : x.length = 512
  · exact c
  · unfold headGet at h
    rw [if_pos c] at h
    have h2 := congrArg Prod.snd h
    cases h2
theorem types_step {s : Pst} {x : List Int} {hd : Hd} (hm : mayS s = true) (h0 : s.f0 = 0) (hn : noT s.f5 = false) (hg : headGet x = (hd, 0)) (h76 : hd.f8 = 76) : stepR s x = (s, [], 5) := by
  have hx := headGet_512 hg
  unfold stepR stepP
  rw [hm, if_pos (by rw [hx]; rfl), if_pos h0]
  unfold headP
  rw [hg, if_neg (show ¬ (0 : Int) = 4 by decide), if_pos rfl, if_pos h76]
  unfold textP
  rw [hn, if_neg (by decide)]
  rfl
theorem types_first {n : Nd} (ho : oneB n = true) (h1 : 256 < n.f0.size) (h2 : ¬ 100 < n.f1.size) : ∃ x r hd, entryB n = x :: r ∧ headGet x = (hd, 0) ∧ hd.f8 = 76 := by
  have hf := oneB_facts ho
  obtain ⟨x, r, hd, e1, e2, e3⟩ := entry_first hf
  refine ⟨x, r, hd, e1, e2, ?_⟩
  have hc := aheadB_count hf
  have hn : (needsB n.f0 n.f1).1 = true := by
    show (!(splitR n.f0).2.2 && mayL n.f0.data.toList) = true
    rw [split_long h1, hf.path]; rfl
  rw [if_neg h2, if_pos hn] at hc
  rcases e3 with ⟨a, _⟩ | ⟨_, b, _⟩ | ⟨_, _, c⟩
  · omega
  · exact absurd b h2
  · exact c

end Go.Proofs.Ytoahjigjlgcjkaa.X
