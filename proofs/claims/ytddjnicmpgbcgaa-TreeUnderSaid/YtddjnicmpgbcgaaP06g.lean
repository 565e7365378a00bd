/- The statement TreeUnder, plainly. -/
import Derived.Test.YtddjnicmpgbcgaaXK
import Derived.Test.YtddjnicmpgbcgaaXreelkeeperlaw06TreeUnder
import Derived.Test.YtddjnicmpgbcgaaYPath
import Derived.Test.YtddjnicmpgbcgaaYBytes
import Derived.Test.YtddjnicmpgbcgaaP02m
import Derived.Test.YtddjnicmpgbcgaaP06a
import Derived.Test.YtddjnicmpgbcgaaP06b
import Derived.Test.YtddjnicmpgbcgaaP06c
namespace Go.Proofs.Ytddjnicmpgbcgaa.X
open Go.RowKit Go.Proofs.YtddjnicmpgbcgaaW.PrintWords Go.Proofs.YtddjnicmpgbcgaaW.PrintLast Go.Proofs.YtddjnicmpgbcgaaW.PrintMore
attribute [local go_sem] max2_int min2_int max_two min_two max_three min_three max_four min_four
set_option linter.unusedVariables false
set_option linter.unusedSimpArgs false

open Go.Proofs.YtddjnicmpgbcgaaY
theorem under_up (l : List Nd) (i k : Int) : Ev (fun n => reelkeeperlaw06_TreeUnder.j0 n l i k true true) true := by
  refine Ev.step (fun _ => rfl) ?_
  simp only [reelkeeperlaw06_TreeUnder.j0, if_true]
  exact Ev.now _
theorem idx_ge {l : List Nd} {p : Nd → Bool} : decide (idxOf p l ≥ 0) = l.any p := by
  unfold idxOf
  cases h : l.findIdx? p with
  | none =>
    have : l.any p = false := by
      rw [List.any_eq_false]
      intro x hx
      rw [List.findIdx?_eq_none_iff] at h
      simpa using h x hx
    rw [this]; rfl
  | some q =>
    have : l.any p = true := by
      rw [List.any_eq_true]
      obtain ⟨hq, hp, _⟩ := List.findIdx?_eq_some_iff_getElem.1 h
      exact ⟨l[q], List.getElem_mem hq, hp⟩
    rw [this]
    simp
theorem TreeUnder_told (l : List Nd) (a b : Int) : ∃ k, reelkeeperlaw06_TreeUnder.f k l a b = some true := by
  refine Ev.rounds ?_
  unfold reelkeeperlaw06_TreeUnder.f
  refine Ev.bind awake6_ev ?_
  refine Ev.bind (few_ev l) ?_
  refine Ev.if_pos rfl ?_
  cases hf : fewL l with
  | false => exact Ev.if_neg (by decide) (under_up l a b)
  | true =>
  refine Ev.if_pos rfl ?_
  obtain ⟨hl, hok⟩ := fewL_iff.1 hf
  refine Ev.bind (may_ev hok) ?_
  cases hm : mayF l with
  | false => exact Ev.if_neg (by decide) (under_up l a b)
  | true =>
  refine Ev.if_pos rfl ?_
  unfold mayF at hm
  rw [Bool.and_eq_true, decide_eq_true_eq] at hm
  obtain ⟨hl2, hT⟩ := hm
  by_cases h0 : a < 0
  · exact Ev.if_pos h0 (under_up l a b)
  refine Ev.if_neg h0 ?_
  by_cases h1 : b < 0
  · exact Ev.if_pos h1 (under_up l a b)
  refine Ev.if_neg h1 ?_
  by_cases h2 : a ≥ (l.length : Int)
  · exact Ev.if_pos h2 (under_up l a b)
  refine Ev.if_neg h2 ?_
  by_cases h3 : b ≥ (l.length : Int)
  · rw [decide_eq_true h3]; exact under_up l a b
  rw [decide_eq_false h3]
  obtain ⟨i, rfl⟩ := Int.eq_ofNat_of_zero_le (show 0 ≤ a by omega)
  obtain ⟨k, rfl⟩ := Int.eq_ofNat_of_zero_le (show 0 ≤ b by omega)
  have hi : i < l.length := by omega
  have hk : k < l.length := by omega
  have hsi : l[i].f0.size ≤ 400 := (okN_iff.1 (hok _ (List.getElem_mem hi))).1
  refine Ev.step (fun _ => rfl) ?_
  simp only [reelkeeperlaw06_TreeUnder.j0]
  refine Ev.if_neg (by decide) ?_
  refine Ev.if_pos (by omega) ?_
  refine Ev.if_pos (by omega) ?_
  simp only [rd_at hi, rd_at hk]
  refine Ev.bind (Ev.of_eq fun _ => under_f hl hok hsi) ?_
  refine Ev.if_pos (by omega) ?_
  refine Ev.if_pos (by omega) ?_
  refine Ev.bind (Ev.of_eq fun _ => rfl) ?_
  refine Ev.bind (Ev.of_eq fun _ => bel_f (hok _ (List.getElem_mem hk)) hsi) ?_
  have hin : decide (idxOf (fun x : Nd => x.f0.toList == l[k].f0.toList) (under l l[i].f0) ≥ 0) = bel l[k] l[i].f0 := by
    rw [idx_ge]
    cases hb : bel l[k] l[i].f0 with
    | true =>
      rw [List.any_eq_true]
      exact ⟨l[k], List.mem_filter.2 ⟨List.getElem_mem hk, hb⟩, by simp⟩
    | false =>
      rw [List.any_eq_false]
      intro x hx he
      obtain ⟨_, hx2⟩ := List.mem_filter.1 hx
      have he2 : x.f0.toList = l[k].f0.toList := by simpa using he
      rw [Lib.toList_data, Lib.toList_data] at he2
      simp only [bel] at hx2 hb
      rw [he2, hb] at hx2
      cases hx2
  have hlen : (under l l[i].f0).length < l.length := by
    have hlt : (under l l[i].f0).length ≠ l.length := by
      intro e
      have := List.length_filter_eq_length_iff.1 e l[i] (List.getElem_mem hi)
      simp only [bel] at this
      rw [below_self] at this
      cases this
    have := List.length_filter_le (fun x => bel x l[i].f0) l
    unfold under at hlt ⊢
    omega
  refine Ev.if_pos (by rw [hin]; simp) ?_
  cases hb : bel l[k] l[i].f0 with
  | false =>
    refine Ev.if_neg (by decide) ?_
    rw [decide_eq_true (by omega)]
    exact Ev.now _
  | true =>
    refine Ev.if_pos rfl ?_
    have hki : i < k := by
      have hls := bel_less hb
      rcases Nat.lt_trichotomy i k with h | h | h
      · exact h
      · subst h; rw [less_irrefl] at hls; cases hls
      · have := less_at hT h hi
        rw [less_asymm this] at hls
        cases hls
    refine Ev.if_pos (by omega) ?_
    refine Ev.if_pos (dir_up hok hT k hk i hi hb) ?_
    rw [decide_eq_true (by omega)]
    exact Ev.now _

end Go.Proofs.Ytddjnicmpgbcgaa.X
