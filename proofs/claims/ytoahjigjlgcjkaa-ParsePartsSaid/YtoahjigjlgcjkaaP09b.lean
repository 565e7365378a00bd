/- A run in two parts, plainly. -/
import Derived.Test.YtoahjigjlgcjkaaXK
import Derived.Test.YtoahjigjlgcjkaaXGpj
import Derived.Test.YtoahjigjlgcjkaaYAll
import Derived.Test.YtoahjigjlgcjkaaYAll
import Derived.Test.YtoahjigjlgcjkaaYAll
import Derived.Test.YtoahjigjlgcjkaaYAll
import Derived.Test.YtoahjigjlgcjkaaPGA
import Derived.Test.YtoahjigjlgcjkaaPGA
import Derived.Test.YtoahjigjlgcjkaaPGA
import Derived.Test.YtoahjigjlgcjkaaPGA
import Derived.Test.YtoahjigjlgcjkaaPGA
import Derived.Test.YtoahjigjlgcjkaaPGE
import Derived.Test.YtoahjigjlgcjkaaPGE
import Derived.Test.YtoahjigjlgcjkaaP04g
import Derived.Test.YtoahjigjlgcjkaaP09a
namespace Go.Proofs.Ytoahjigjlgcjkaa.X
open Go.RowKit Go.Proofs.YtoahjigjlgcjkaaW.PrintWords Go.Proofs.YtoahjigjlgcjkaaW.PrintLast Go.Proofs.YtoahjigjlgcjkaaW.PrintMore
attribute [local go_sem] max2_int min2_int max_two min_two
set_option linter.unusedVariables false
set_option linter.unusedSimpArgs false

open Go.Proofs.YtoahjigjlgcjkaaY
set_option maxRecDepth 100000
theorem runP_ge : ∀ (L : List (List Int)) (s : Pst) (all : List Evt) (i : Nat), i ≤ (runP s L all i).2.2.1 ∧ ((runP s L all i).2.2.1 = i → (runP s L all i).1 = s)
  | [], s, all, i => ⟨Nat.le_refl _, fun _ => rfl⟩
  | x :: L, s, all, i => by
    unfold runP
    split
    · split
      · exact ⟨by show i ≤ i + 1; omega, fun h => absurd (show i + 1 = i from h) (by omega)⟩
      · have h := (runP_ge L (stepR s x).1 (all ++ (stepR s x).2.1) (i + 1)).1
        exact ⟨by omega, fun h2 => by omega⟩
    · exact ⟨Nat.le_refl _, fun _ => rfl⟩
theorem runP_append (b : List (List Int)) : ∀ (a : List (List Int)) (s : Pst) (all : List Evt) (i : Nat),
    runP s (a ++ b) all i = if (runP s a all i).2.2.2 ≠ 0 ∨ ((runP s a all i).1.f0 = 5 ∧ i < (runP s a all i).2.2.1) then runP s a all i else runP (runP s a all i).1 b (runP s a all i).2.1 (runP s a all i).2.2.1
  | [], s, all, i => by
    rw [List.nil_append, if_neg]
    · rfl
    · rintro (h | ⟨_, h⟩)
      · exact h rfl
      · exact absurd (show i < i from h) (by omega)
  | x :: a, s, all, i => by
    rw [List.cons_append]
    by_cases h0 : (stepR s x).2.2 = 0
    · by_cases h5 : (stepR s x).1.f0 = 5
      · have e : ∀ L, runP s (x :: L) all i = ((stepR s x).1, all ++ (stepR s x).2.1, i + 1, 0) := fun L => by rw [runP, if_pos h0, if_pos h5]
        rw [e, e, if_pos (.inr ⟨h5, by show i < i + 1; omega⟩)]
      · have e : ∀ L, runP s (x :: L) all i = runP (stepR s x).1 L (all ++ (stepR s x).2.1) (i + 1) := fun L => by rw [runP, if_pos h0, if_neg h5]
        rw [e, e, runP_append b a]
        have hg := runP_ge a (stepR s x).1 (all ++ (stepR s x).2.1) (i + 1)
        generalize runP (stepR s x).1 a (all ++ (stepR s x).2.1) (i + 1) = r at *
        have hc : (r.2.2.2 ≠ 0 ∨ (r.1.f0 = 5 ∧ i + 1 < r.2.2.1)) ↔ (r.2.2.2 ≠ 0 ∨ (r.1.f0 = 5 ∧ i < r.2.2.1)) := by
          constructor
          · rintro (h | ⟨h, h2⟩)
            · exact .inl h
            · exact .inr ⟨h, by omega⟩
          · rintro (h | ⟨h, h2⟩)
            · exact .inl h
            · refine .inr ⟨h, ?_⟩
              by_cases h3 : r.2.2.1 = i + 1
              · rw [hg.2 h3] at h; exact absurd h h5
              · omega
        by_cases c : r.2.2.2 ≠ 0 ∨ (r.1.f0 = 5 ∧ i + 1 < r.2.2.1)
        · rw [if_pos c, if_pos (hc.1 c)]
        · rw [if_neg c, if_neg (fun h => c (hc.2 h))]
    · have e : ∀ L, runP s (x :: L) all i = (s, all, i, (stepR s x).2.2) := fun L => by rw [runP, if_neg h0]
      rw [e, e, if_pos (.inl h0)]
theorem runP_shift : ∀ (L : List (List Int)) (s : Pst) (all : List Evt) (i : Nat) (all' : List Evt) (j : Nat), runP s L (all' ++ all) (j + i) = ((runP s L all i).1, all' ++ (runP s L all i).2.1, j + (runP s L all i).2.2.1, (runP s L all i).2.2.2)
  | [], s, all, i, all', j => rfl
  | x :: L, s, all, i, all', j => by
    by_cases h0 : (stepR s x).2.2 = 0
    · by_cases h5 : (stepR s x).1.f0 = 5
      · rw [runP, if_pos h0, if_pos h5, runP, if_pos h0, if_pos h5, List.append_assoc]; rfl
      · rw [runP, if_pos h0, if_neg h5, runP, if_pos h0, if_neg h5, List.append_assoc]
        exact runP_shift L (stepR s x).1 (all ++ (stepR s x).2.1) (i + 1) all' j
    · rw [runP, if_neg h0, runP, if_neg h0]
/-- First the ones, and then the others. -/
theorem runR_append (s : Pst) (a b : List (List Int)) : runR s (a ++ b) = if (runR s a).2.2.2 ≠ 0 ∨ ((runR s a).1.f0 = 5 ∧ 0 < (runR s a).2.2.1) then runR s a
    else ((runR (runR s a).1 b).1, (runR s a).2.1 ++ (runR (runR s a).1 b).2.1, (runR s a).2.2.1 + (runR (runR s a).1 b).2.2.1, (runR (runR s a).1 b).2.2.2) := by
  unfold runR
  rw [runP_append]
  split
  · rfl
  · have h := runP_shift b (runP s a [] 0).1 [] 0 (runP s a [] 0).2.1 (runP s a [] 0).2.2.1
    rw [List.append_nil, Nat.add_zero] at h
    exact h

end Go.Proofs.Ytoahjigjlgcjkaa.X
