/- The statement TreeTwice, plainly. -/
import Derived.Test.YtddjnicmpgbcgaaXK
import Derived.Test.YtddjnicmpgbcgaaXreelkeeperlaw06TreeTwice
import Derived.Test.YtddjnicmpgbcgaaXreelkeeperref06Same
import Derived.Test.YtddjnicmpgbcgaaYPath
import Derived.Test.YtddjnicmpgbcgaaYBytes
import Derived.Test.YtddjnicmpgbcgaaP02m
import Derived.Test.YtddjnicmpgbcgaaP06a
import Derived.Test.YtddjnicmpgbcgaaP06b
import Derived.Test.YtddjnicmpgbcgaaP06c
namespace Go.Proofs.Ytddjnicmpgbcgaa.X
open Go.RowKit Go.Proofs.YtddjnicmpgbcgaaW.PrintWords Go.Proofs.YtddjnicmpgbcgaaW.PrintLast Go.Proofs.YtddjnicmpgbcgaaW.PrintMore
attribute [local go_sem] max2_int min2_int max_two min_two max_three min_three max_four min_four
set_option linter.unusedVariables false
set_option linter.unusedSimpArgs false

open Go.Proofs.YtddjnicmpgbcgaaY
theorem same_loop (l : List Nd) (hl : l.length ≤ 30) : ∀ (d i : Nat), i + d = l.length → Ev (fun k => reelkeeperref06_Same.l0 k l l (i : Int)) true := by
  intro d
  induction d with
  | zero =>
    intro i hi
    refine Ev.step (fun _ => rfl) ?_
    simp only [reelkeeperref06_Same.l0]
    exact Ev.if_neg (by omega) (Ev.now _)
  | succ d ih =>
    intro i hi
    refine Ev.step (fun _ => rfl) ?_
    simp only [reelkeeperref06_Same.l0]
    refine Ev.if_pos (by omega) ?_
    refine Ev.if_pos (by omega) ?_
    refine Ev.if_pos (by omega) ?_
    refine Ev.if_neg (by simp) ?_
    have hw : wrap64 ((i : Int) + 1) = ((i + 1 : Nat) : Int) := by rw [wrap_id (by omega) (by omega)]; omega
    rw [hw]
    exact ih (i + 1) (by omega)
theorem same_self (l : List Nd) (hl : l.length ≤ 30) : Ev (fun k => reelkeeperref06_Same.f k l l) true := by
  unfold reelkeeperref06_Same.f
  exact Ev.if_pos rfl (same_loop l hl l.length 0 (by omega))
theorem twice_up (l : List Nd) (p : ByteArray) (i : Int) : Ev (fun n => reelkeeperlaw06_TreeTwice.j0 n l p i true true) true := by
  refine Ev.step (fun _ => rfl) ?_
  simp only [reelkeeperlaw06_TreeTwice.j0, if_true]
  exact Ev.now _
theorem twice_up1 (l u : List Nd) (i : Int) : Ev (fun n => reelkeeperlaw06_TreeTwice.j1 n l i u true true) true := by
  refine Ev.step (fun _ => rfl) ?_
  simp only [reelkeeperlaw06_TreeTwice.j1, if_true]
  exact Ev.now _
theorem TreeTwice_told (l : List Nd) (p : ByteArray) (a : Int) : ∃ k, reelkeeperlaw06_TreeTwice.f k l p a = some true := by
  refine Ev.rounds ?_
  unfold reelkeeperlaw06_TreeTwice.f
  refine Ev.bind awake6_ev ?_
  refine Ev.bind (few_ev l) ?_
  refine Ev.if_pos rfl ?_
  cases hf : fewL l with
  | false => exact Ev.if_neg (by decide) (twice_up l p a)
  | true =>
  refine Ev.if_pos rfl ?_
  obtain ⟨hl, hok⟩ := fewL_iff.1 hf
  by_cases hp : (p.size : Int) > 400
  · rw [decide_eq_true hp]; exact twice_up l p a
  rw [decide_eq_false hp]
  have hp2 : p.size ≤ 400 := by omega
  have hul : (under l p).length ≤ 30 := Nat.le_trans (List.length_filter_le _ _) hl
  have huo : ∀ n ∈ under l p, okN n = true := fun n hn => hok n (List.mem_filter.1 hn).1
  have huu : under (under l p) p = under l p := by unfold under; simp
  refine Ev.step (fun _ => rfl) ?_
  simp only [reelkeeperlaw06_TreeTwice.j0]
  refine Ev.if_neg (by decide) ?_
  refine Ev.bind (Ev.of_eq fun _ => under_f hl hok hp2) ?_
  refine Ev.bind (a := under l p) (Ev.of_eq fun _ => by rw [under_f hul huo hp2, huu]) ?_
  refine Ev.bind (same_self _ hul) ?_
  by_cases h0 : a < 0
  · exact Ev.if_pos h0 (twice_up1 _ _ _)
  refine Ev.if_neg h0 ?_
  by_cases h1 : a ≥ ((under l p).length : Int)
  · rw [decide_eq_true h1]; exact twice_up1 _ _ _
  rw [decide_eq_false h1]
  obtain ⟨i, rfl⟩ := Int.eq_ofNat_of_zero_le (show 0 ≤ a by omega)
  have hi : i < (under l p).length := by omega
  have hsi : (under l p)[i].f0.size ≤ 400 := (okN_iff.1 (huo _ (List.getElem_mem hi))).1
  have hbi : bel (under l p)[i] p = true := by
    have := List.getElem_mem hi
    exact (List.mem_filter.1 this).2
  have he : under (under l p) (under l p)[i].f0 = under l (under l p)[i].f0 := by
    generalize (under l p)[i] = n at *
    unfold under
    rw [List.filter_filter]
    refine List.filter_congr fun x _ => ?_
    cases hx : bel x n.f0 with
    | false => rfl
    | true => rw [show bel x p = true from below_trans hx hbi]; rfl
  refine Ev.step (fun _ => rfl) ?_
  simp only [reelkeeperlaw06_TreeTwice.j1]
  refine Ev.if_neg (by decide) ?_
  refine Ev.if_pos (by omega) ?_
  refine Ev.if_pos (by omega) ?_
  simp only [rd_at hi]
  refine Ev.bind (Ev.of_eq fun _ => under_f hl hok hsi) ?_
  refine Ev.bind (a := under l (under l p)[i].f0) (Ev.of_eq fun _ => by rw [under_f hul huo hsi, he]) ?_
  refine Ev.bind (same_self _ (Nat.le_trans (List.length_filter_le _ _) hl)) ?_
  exact Ev.if_pos trivial (Ev.now _)

end Go.Proofs.Ytddjnicmpgbcgaa.X
