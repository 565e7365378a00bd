/- The statement TreeFiles, plainly. -/
import Derived.Test.YtddjnicmpgbcgaaXK
import Derived.Test.YtddjnicmpgbcgaaXreelkeeperlaw06TreeFiles
import Derived.Test.YtddjnicmpgbcgaaYPath
import Derived.Test.YtddjnicmpgbcgaaYBytes
import Derived.Test.YtddjnicmpgbcgaaP02m
import Derived.Test.YtddjnicmpgbcgaaP06a
import Derived.Test.YtddjnicmpgbcgaaP06b
import Derived.Test.YtddjnicmpgbcgaaP06c
namespace Go.Proofs.Ytddjnicmpgbcgaa.X
open Go.RowKit Go.Proofs.YtddjnicmpgbcgaaW.PrintWords Go.Proofs.YtddjnicmpgbcgaaW.PrintLast Go.Proofs.YtddjnicmpgbcgaaW.PrintMore
attribute [local go_sem] max2_int min2_int max_two min_two max_three min_three max_four min_four
set_option linter.unusedVariables false
set_option linter.unusedSimpArgs false

open Go.Proofs.YtddjnicmpgbcgaaY
theorem files_up (l : List Nd) (i : Int) : Ev (fun n => reelkeeperlaw06_TreeFiles.j0 n l i true true) true := by
  refine Ev.step (fun _ => rfl) ?_
  simp only [reelkeeperlaw06_TreeFiles.j0, if_true]
  exact Ev.now _
/-- Of a tree: what is seen ahead of a node is found there. -/
theorem seen_find {l : List Nd} (hT : mayT [] ⟨#[]⟩ l = true) {k : Nat} {s : ByteArray} {c : Int} (hc : c ≠ 0) (h : seen (l.take k) s = c) : ∃ j, ∃ hj : j < l.length, j < k ∧ idxOf (fun x : Nd => x.f0.toList == s.toList) l = (j : Int) ∧ l[j].f2 = c := by
  obtain ⟨x, hx, he, h2, _⟩ := seen_is hc h
  obtain ⟨j, hj, hjk, rfl⟩ := mem_take_at hx
  refine ⟨j, hj, hjk, ?_, h2⟩
  rw [← he]
  exact idx_at hT hj
theorem files_loop {l : List Nd} {i : Nat} (hi : i < l.length) (hok : okN l[i] = true) (hT : mayT [] ⟨#[]⟩ l = true) : ∀ (d n : Nat), n + d = l[i].f0.size → ∀ at_ : Int,
    ((at_ = -1 ∧ (47 : UInt8) ∉ l[i].f0.data.toList.take n) ∨ ∃ m : Nat, at_ = m ∧ m < n ∧ l[i].f0.data.toList[m]? = some 47 ∧ (47 : UInt8) ∉ (l[i].f0.data.toList.take n).drop (m + 1)) →
    Ev (fun k => reelkeeperlaw06_TreeFiles.l0 k l (i : Int) true at_ (n : Int)) true := by
  have hsz : l[i].f0.size ≤ 400 := (okN_iff.1 hok).1
  intro d
  induction d with
  | zero =>
    intro n hn at_ h
    have hln : l[i].f0.data.toList.length = n := by rw [Array.length_toList]; show l[i].f0.size = n; omega
    have htk : l[i].f0.data.toList.take n = l[i].f0.data.toList := List.take_of_length_le (by omega)
    rw [htk] at h
    refine Ev.step (fun _ => rfl) ?_
    simp only [reelkeeperlaw06_TreeFiles.l0]
    refine Ev.if_pos (by omega) ?_
    refine Ev.if_pos (by omega) ?_
    simp only [rd_at hi]
    refine Ev.if_neg (by omega) ?_
    rcases h with ⟨rfl, _⟩ | ⟨m, rfl, hm, hc, hno⟩
    · exact Ev.if_pos (by decide) (Ev.now _)
    · refine Ev.if_neg (by omega) ?_
      refine Ev.if_pos (by omega) ?_
      refine Ev.if_pos (by omega) ?_
      obtain ⟨last, hs⟩ := step_at hT hi
      have hmay := one_may hok (step_one hs)
      have hcut := list_at hc
      have hex : (l[i].f0.extract 0 ((m : Int)).toNat).data.toList = l[i].f0.data.toList.take m := by simp
      rcases (parentOf_ev (s := l[i].f0) (by omega)).2 with ⟨_, hno2⟩ | ⟨hp2, _, y, hy, hny⟩
      · exact absurd (List.mem_of_getElem? hc) (hno2 hmay)
      · have hsd := step_dir hs hp2
        have hpe : (parentOf l[i].f0).1.data.toList = l[i].f0.data.toList.take m := tail_unique (hy.symm.trans hcut) hny hno
        obtain ⟨j, hj, hji, hidx, h2⟩ := seen_find hT (by decide) hsd
        have hidx2 : idxOf (fun x : Nd => x.f0.toList == (l[i].f0.extract 0 ((m : Int)).toNat).toList) l = (j : Int) := by
          rw [Lib.toList_data, hex, ← hpe, ← Lib.toList_data]
          exact hidx
        refine Ev.bind (a := (j : Int)) (Ev.of_eq fun _ => by unfold tree_Find.f; rw [hidx2]) ?_
        refine Ev.if_pos trivial ?_
        refine Ev.if_pos (by omega) ?_
        refine Ev.if_pos (by omega) ?_
        refine Ev.if_pos (by omega) ?_
        refine Ev.if_pos (by omega) ?_
        simp only [rd_at hj, h2, beq_self_eq_true]
        exact Ev.now _
  | succ d ih =>
    intro n hn at_ h
    have hlt : n < l[i].f0.size := by omega
    have hll : n < l[i].f0.data.toList.length := by rw [Array.length_toList]; exact hlt
    have htk : l[i].f0.data.toList.take (n + 1) = l[i].f0.data.toList.take n ++ [l[i].f0.data.toList[n]] := List.take_succ_eq_append_getElem hll
    have hw : wrap64 ((n : Int) + 1) = ((n + 1 : Nat) : Int) := by rw [wrap_id (by omega) (by omega)]; omega
    refine Ev.step (fun _ => rfl) ?_
    simp only [reelkeeperlaw06_TreeFiles.l0]
    refine Ev.if_pos (by omega) ?_
    refine Ev.if_pos (by omega) ?_
    simp only [rd_at hi]
    refine Ev.if_pos (by omega) ?_
    refine Ev.if_pos (by omega) ?_
    rw [hw]
    by_cases h47 : bt l[i].f0 (n : Int) = 47
    · refine Ev.if_pos h47 ?_
      refine ih (n + 1) (by omega) _ (.inr ⟨n, rfl, by omega, (bt_is hlt 47).1 h47, ?_⟩)
      rw [List.drop_eq_nil_of_le (by simp; omega)]
      simp
    · refine Ev.if_neg h47 ?_
      have hne : l[i].f0.data.toList[n] ≠ 47 := fun e => h47 ((bt_is hlt 47).2 (by rw [List.getElem?_eq_getElem hll, e]))
      refine ih (n + 1) (by omega) _ ?_
      rcases h with ⟨h1, h2⟩ | ⟨m, h1, hm, hc, hno⟩
      · refine .inl ⟨h1, ?_⟩
        rw [htk]
        simp only [List.mem_append, List.mem_singleton, not_or]
        exact ⟨h2, fun e => hne e.symm⟩
      · refine .inr ⟨m, h1, by omega, hc, ?_⟩
        rw [htk, List.drop_append_of_le_length (by simp; omega)]
        simp only [List.mem_append, List.mem_singleton, not_or]
        exact ⟨hno, fun e => hne e.symm⟩
theorem files_j1 {l : List Nd} {i : Nat} (hi : i < l.length) (hok : okN l[i] = true) (hT : mayT [] ⟨#[]⟩ l = true) : Ev (fun k => reelkeeperlaw06_TreeFiles.j1 k l (i : Int) true) true := by
  refine Ev.step (fun _ => rfl) ?_
  simp only [reelkeeperlaw06_TreeFiles.j1]
  exact files_loop hi hok hT l[i].f0.size 0 (by omega) (-1) (.inl ⟨rfl, by simp⟩)
theorem TreeFiles_told (l : List Nd) (a : Int) : ∃ k, reelkeeperlaw06_TreeFiles.f k l a = some true := by
  refine Ev.rounds ?_
  unfold reelkeeperlaw06_TreeFiles.f
  refine Ev.bind awake6_ev ?_
  refine Ev.bind (few_ev l) ?_
  refine Ev.if_pos rfl ?_
  cases hf : fewL l with
  | false => exact Ev.if_neg (by decide) (files_up l a)
  | true =>
  refine Ev.if_pos rfl ?_
  obtain ⟨hl, hok⟩ := fewL_iff.1 hf
  refine Ev.bind (may_ev hok) ?_
  cases hm : mayF l with
  | false => exact Ev.if_neg (by decide) (files_up l a)
  | true =>
  refine Ev.if_pos rfl ?_
  unfold mayF at hm
  rw [Bool.and_eq_true, decide_eq_true_eq] at hm
  obtain ⟨hl2, hT⟩ := hm
  by_cases h0 : a < 0
  · exact Ev.if_pos h0 (files_up l a)
  refine Ev.if_neg h0 ?_
  by_cases h1 : a ≥ (l.length : Int)
  · rw [decide_eq_true h1]; exact files_up l a
  rw [decide_eq_false h1]
  obtain ⟨i, rfl⟩ := Int.eq_ofNat_of_zero_le (show 0 ≤ a by omega)
  have hi : i < l.length := by omega
  have hoki := hok _ (List.getElem_mem hi)
  refine Ev.step (fun _ => rfl) ?_
  simp only [reelkeeperlaw06_TreeFiles.j0]
  refine Ev.if_neg (by decide) ?_
  refine Ev.if_pos (by omega) ?_
  refine Ev.if_pos (by omega) ?_
  simp only [rd_at hi]
  refine Ev.bind (Ev.of_eq fun _ => rfl) ?_
  by_cases hk : l[i].f2 = 49
  · refine Ev.if_pos hk ?_
    obtain ⟨last, hs⟩ := step_at hT hi
    obtain ⟨j, hj, hji, hidx, h2⟩ := seen_find hT (by decide) (step_file hs hk)
    rw [hidx]
    refine Ev.if_pos (by omega) ?_
    refine Ev.if_pos (by omega) ?_
    refine Ev.if_pos (by omega) ?_
    refine Ev.if_pos (by omega) ?_
    simp only [rd_at hj, h2, beq_self_eq_true]
    exact files_j1 hi hoki hT
  · exact Ev.if_neg hk (files_j1 hi hoki hT)

end Go.Proofs.Ytddjnicmpgbcgaa.X
