/- With more blocks behind, plainly. -/
import Derived.Test.YtpedagpcblnnhaaXK
import Derived.Test.YtpedagpcblnnhaaXGpj
import Derived.Test.YtpedagpcblnnhaaYAll
import Derived.Test.YtpedagpcblnnhaaYAll
import Derived.Test.YtpedagpcblnnhaaYAll
import Derived.Test.YtpedagpcblnnhaaYAll
import Derived.Test.YtpedagpcblnnhaaPGA
import Derived.Test.YtpedagpcblnnhaaPGA
import Derived.Test.YtpedagpcblnnhaaPGA
import Derived.Test.YtpedagpcblnnhaaPGA
import Derived.Test.YtpedagpcblnnhaaPGA
import Derived.Test.YtpedagpcblnnhaaPGE
import Derived.Test.YtpedagpcblnnhaaPGE
import Derived.Test.YtpedagpcblnnhaaP04g
import Derived.Test.YtpedagpcblnnhaaP09a
import Derived.Test.YtpedagpcblnnhaaP09b
import Derived.Test.YtpedagpcblnnhaaP10a
namespace Go.Proofs.Ytpedagpcblnnhaa.X
open Go.RowKit Go.Proofs.YtpedagpcblnnhaaW.PrintWords Go.Proofs.YtpedagpcblnnhaaW.PrintLast Go.Proofs.YtpedagpcblnnhaaW.PrintMore
attribute [local go_sem] max2_int min2_int max_two min_two
set_option linter.unusedVariables false
set_option linter.unusedSimpArgs false

open Go.Proofs.YtpedagpcblnnhaaY
theorem more_at {t u : List Nd} (h : More t u) : t.length ≤ u.length ∧ ∀ i, i < t.length → ∃ y d, t[i]? = some y ∧ u[i]? = some (addD y d) ∧ (i + 1 < t.length → d = ⟨#[]⟩) := by
  cases h with
  | none r =>
    refine ⟨by rw [List.length_append]; omega, fun i hi => ?_⟩
    refine ⟨t[i], ⟨#[]⟩, List.getElem?_eq_getElem hi, ?_, fun _ => rfl⟩
    rw [List.getElem?_append_left hi, addD_nil, List.getElem?_eq_getElem hi]
  | last t n d r =>
    refine ⟨by simp, fun i hi => ?_⟩
    rw [List.length_append, List.length_singleton] at hi
    by_cases c : i < t.length
    · refine ⟨t[i], ⟨#[]⟩, ?_, ?_, fun _ => rfl⟩
      · rw [List.getElem?_append_left c, List.getElem?_eq_getElem c]
      · rw [List.getElem?_append_left c, addD_nil, List.getElem?_eq_getElem c]
    · obtain rfl : i = t.length := by omega
      refine ⟨n, d, ?_, ?_, fun h => ?_⟩
      · rw [List.getElem?_append_right (Nat.le_refl _), Nat.sub_self]; rfl
      · rw [List.getElem?_append_right (Nat.le_refl _), Nat.sub_self]; rfl
      · rw [List.length_append, List.length_singleton] at h; omega
/-- The nodes of the first blocks, and of more. -/
theorem part_more (a b : List (List Int)) : More (gatherF (runR st0 a).2.1).1 (gatherF (runR st0 (a ++ b)).2.1).1 ∧ ((runR st0 a).2.2.2 ≠ 0 → (gatherF (runR st0 (a ++ b)).2.1).1 = (gatherF (runR st0 a).2.1).1) := by
  rw [runR_append]
  split
  · refine ⟨?_, fun _ => rfl⟩
    have h := More.none (gatherF (runR st0 a).2.1).1 []
    rw [List.append_nil] at h
    exact h
  · rename_i hc
    exact ⟨gatherF_more _ _, fun h => absurd (.inl h) hc⟩
theorem addD_cut (s d : ByteArray) : (s ++ d).extract 0 s.size = s := by
  apply ByteArray.ext
  apply Array.ext'
  have hd : s.data.toList.length = s.size := Array.length_toList
  rw [Lib.extract_data, app_data, List.drop_zero, Nat.sub_zero, ← hd, List.take_left]

end Go.Proofs.Ytpedagpcblnnhaa.X
