/- What a tree's order gives, plainly. -/
import Derived.Test.YtklbnfpjjcidiaaXK
import Derived.Test.YtklbnfpjjcidiaaXGtree
import Derived.Test.YtklbnfpjjcidiaaXGtree
import Derived.Test.YtklbnfpjjcidiaaXGtree
import Derived.Test.YtklbnfpjjcidiaaYAll
import Derived.Test.YtklbnfpjjcidiaaYAll
import Derived.Test.YtklbnfpjjcidiaaPGA
import Derived.Test.YtklbnfpjjcidiaaPGA
import Derived.Test.YtklbnfpjjcidiaaP06a
import Derived.Test.YtklbnfpjjcidiaaP06d
namespace Go.Proofs.Ytklbnfpjjcidiaa.X
open Go.RowKit Go.Proofs.YtklbnfpjjcidiaaW.PrintWords Go.Proofs.YtklbnfpjjcidiaaW.PrintLast Go.Proofs.YtklbnfpjjcidiaaW.PrintMore
attribute [local go_sem] max2_int min2_int max_two min_two
set_option linter.unusedVariables false
set_option linter.unusedSimpArgs false

open Go.Proofs.YtklbnfpjjcidiaaY
theorem step_less {pre : List Nd} {last : ByteArray} {n : Nd} (h : step pre last n = true) : Op.bytesLess last.toList n.f0.toList = true := by
  unfold step at h
  rw [leq_less] at h
  simp only [Bool.and_eq_true, Bool.not_not] at h
  exact h.2.1
theorem mayT_sorted : ∀ (l pre : List Nd) (last : ByteArray), mayT pre last l = true → (∀ n ∈ l, Op.bytesLess last.toList n.f0.toList = true) ∧ l.Pairwise (fun a b => Op.bytesLess a.f0.toList b.f0.toList = true)
  | [], _, _, _ => ⟨fun _ h => by simp at h, .nil⟩
  | n :: t, pre, last, h => by
    unfold mayT at h
    rw [Bool.and_eq_true] at h
    have hl := step_less h.1
    obtain ⟨h1, h2⟩ := mayT_sorted t _ _ h.2
    refine ⟨fun x hx => ?_, .cons h1 h2⟩
    cases hx with
    | head => exact hl
    | tail _ hx => exact less_trans hl (h1 x hx)
theorem split_at {l : List Nd} {i : Nat} (hi : i < l.length) : l = l.take i ++ l[i] :: l.drop (i + 1) := by rw [List.getElem_cons_drop, List.take_append_drop]
theorem step_at {l : List Nd} (h : mayT [] ⟨#[]⟩ l = true) {i : Nat} (hi : i < l.length) : ∃ last, step (l.take i) last l[i] = true := by
  rw [split_at hi, mayT_append, Bool.and_eq_true] at h
  have h2 := h.2
  unfold mayT at h2
  rw [Bool.and_eq_true] at h2
  simp only [List.nil_append] at h2
  exact ⟨_, h2.1⟩
theorem less_at {l : List Nd} (h : mayT [] ⟨#[]⟩ l = true) {i j : Nat} (hij : i < j) (hj : j < l.length) : Op.bytesLess (l[i]'(by omega)).f0.toList l[j].f0.toList = true :=
  List.pairwise_iff_getElem.1 (mayT_sorted l _ _ h).2 i j (by omega) hj hij
theorem same_at {l : List Nd} (h : mayT [] ⟨#[]⟩ l = true) {i j : Nat} (hi : i < l.length) (hj : j < l.length) (e : l[i].f0.toList = l[j].f0.toList) : i = j := by
  rcases Nat.lt_trichotomy i j with hlt | he | hlt
  · exact absurd e (less_ne (less_at h hlt hj))
  · exact he
  · exact absurd e.symm (less_ne (less_at h hlt hi))
theorem idx_at {l : List Nd} (h : mayT [] ⟨#[]⟩ l = true) {i : Nat} (hi : i < l.length) : idxOf (fun x : Nd => x.f0.toList == l[i].f0.toList) l = i := by
  refine idxOf_at hi ?_ (by simp)
  rw [List.all_eq_true]
  intro x hx
  obtain ⟨j, hj, rfl⟩ := List.mem_take_iff_getElem.1 hx
  have : (l[j].f0.toList == l[i].f0.toList) = false := beq_eq_false_iff_ne.2 (less_ne (less_at h (by omega) hi))
  rw [this]; rfl
theorem one_may {n : Nd} (hn : okN n = true) (h : one n = true) : mayL n.f0.data.toList = true := by
  have h1 := one_f hn
  rw [h] at h1
  unfold tree_One.f at h1
  obtain ⟨q, _, h1⟩ := Option.bind_eq_some_iff.mp h1
  rw [may_f (by have := (okN_iff.1 hn).1; omega)] at h1
  have h2 := Option.some.inj h1
  simp only [Bool.and_eq_true] at h2
  exact h2.1.1.1.1.2
theorem step_one {pre : List Nd} {last : ByteArray} {n : Nd} (h : step pre last n = true) : one n = true := by
  unfold step at h
  rw [Bool.and_eq_true] at h
  exact h.1

end Go.Proofs.Ytklbnfpjjcidiaa.X
