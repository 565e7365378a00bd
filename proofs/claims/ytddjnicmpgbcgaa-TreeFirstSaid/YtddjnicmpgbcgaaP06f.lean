/- The statement TreeFirst, plainly. -/
import Derived.Test.YtddjnicmpgbcgaaXK
import Derived.Test.YtddjnicmpgbcgaaXreelkeeperlaw06TreeFirst
import Derived.Test.YtddjnicmpgbcgaaYPath
import Derived.Test.YtddjnicmpgbcgaaYBytes
import Derived.Test.YtddjnicmpgbcgaaP02m
import Derived.Test.YtddjnicmpgbcgaaP06a
import Derived.Test.YtddjnicmpgbcgaaP06b
namespace Go.Proofs.Ytddjnicmpgbcgaa.X
open Go.RowKit Go.Proofs.YtddjnicmpgbcgaaW.PrintWords Go.Proofs.YtddjnicmpgbcgaaW.PrintLast Go.Proofs.YtddjnicmpgbcgaaW.PrintMore
attribute [local go_sem] max2_int min2_int max_two min_two max_three min_three max_four min_four
set_option linter.unusedVariables false
set_option linter.unusedSimpArgs false

open Go.Proofs.YtddjnicmpgbcgaaY
theorem first_up (l : List Nd) (i : Int) : Ev (fun k => reelkeeperlaw06_TreeFirst.j0 k l i true true) true := by
  refine Ev.step (fun _ => rfl) ?_
  simp only [reelkeeperlaw06_TreeFirst.j0, if_true]
  exact Ev.now _
theorem TreeFirst_told (l : List Nd) (a : Int) : ∃ k, reelkeeperlaw06_TreeFirst.f k l a = some true := by
  refine Ev.rounds ?_
  unfold reelkeeperlaw06_TreeFirst.f
  refine Ev.bind awake6_ev ?_
  refine Ev.bind (few_ev l) ?_
  refine Ev.if_pos rfl ?_
  cases hf : fewL l with
  | false => exact Ev.if_neg (by decide) (first_up l a)
  | true =>
  refine Ev.if_pos rfl ?_
  obtain ⟨hl, hok⟩ := fewL_iff.1 hf
  refine Ev.bind (may_ev hok) ?_
  cases hm : mayF l with
  | false => exact Ev.if_neg (by decide) (first_up l a)
  | true =>
  refine Ev.if_pos rfl ?_
  unfold mayF at hm
  rw [Bool.and_eq_true, decide_eq_true_eq] at hm
  obtain ⟨hl2, hT⟩ := hm
  by_cases h0 : a < 0
  · exact Ev.if_pos h0 (first_up l a)
  refine Ev.if_neg h0 ?_
  by_cases h1 : a ≥ (l.length : Int)
  · rw [decide_eq_true h1]; exact first_up l a
  rw [decide_eq_false h1]
  obtain ⟨i, rfl⟩ := Int.eq_ofNat_of_zero_le (show 0 ≤ a by omega)
  have hi : i < l.length := by omega
  refine Ev.step (fun _ => rfl) ?_
  simp only [reelkeeperlaw06_TreeFirst.j0]
  refine Ev.if_neg (by decide) ?_
  refine Ev.if_pos (by omega) ?_
  refine Ev.if_pos (by omega) ?_
  have hmt : mayF (l.take i) = true := by
    unfold mayF
    rw [mayT_take hT, decide_eq_true (by rw [List.length_take]; omega)]
    rfl
  refine Ev.bind (a := true) (by rw [← hmt]; exact may_ev (fun n hn => hok n (List.mem_of_mem_take hn))) ?_
  refine Ev.if_pos rfl ?_
  refine Ev.if_pos (by omega) ?_
  rw [rd_at hi]
  obtain ⟨last, hs⟩ := step_at hT hi
  refine Ev.bind (a := true) (Ev.of_eq fun _ => by rw [one_f (hok _ (List.getElem_mem hi)), step_one hs]) ?_
  refine Ev.if_pos rfl ?_
  refine Ev.bind (a := (i : Int)) (Ev.of_eq fun _ => by unfold tree_Find.f; rw [idx_at hT hi]) ?_
  simp only [beq_self_eq_true]
  exact Ev.now _

end Go.Proofs.Ytddjnicmpgbcgaa.X
