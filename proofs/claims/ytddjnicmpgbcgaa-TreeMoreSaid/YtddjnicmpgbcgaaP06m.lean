/- The statement TreeMore, plainly. -/
import Derived.Test.YtddjnicmpgbcgaaXK
import Derived.Test.YtddjnicmpgbcgaaXreelkeeperlaw06TreeMore
import Derived.Test.YtddjnicmpgbcgaaYPath
import Derived.Test.YtddjnicmpgbcgaaYBytes
import Derived.Test.YtddjnicmpgbcgaaP02m
import Derived.Test.YtddjnicmpgbcgaaP06a
import Derived.Test.YtddjnicmpgbcgaaP06b
import Derived.Test.YtddjnicmpgbcgaaP06c
namespace Go.Proofs.Ytddjnicmpgbcgaa.X
open Go.RowKit Go.Proofs.YtddjnicmpgbcgaaW.PrintWords Go.Proofs.YtddjnicmpgbcgaaW.PrintLast Go.Proofs.YtddjnicmpgbcgaaW.PrintMore
attribute [local go_sem] max2_int min2_int max_two min_two max_three min_three max_four min_four
set_option linter.unusedVariables false
set_option linter.unusedSimpArgs false

open Go.Proofs.YtddjnicmpgbcgaaY
theorem more_seen (l : List Nd) (p : ByteArray) {c : Int} (hc : c ≠ 0) : moreDir l (idxOf (fun x : Nd => x.f0.toList == p.toList) l) c = (seen l p == c) := by
  unfold moreDir idxOf seen
  cases h : l.findIdx? (fun x : Nd => x.f0.toList == p.toList) with
  | none =>
    have hf : l.find? (fun x : Nd => x.f0.toList == p.toList) = none := by
      rw [List.findIdx?_eq_none_iff] at h
      rw [List.find?_eq_none]
      intro x hx
      simpa using h x hx
    rw [hf]
    have : ((Option.map (fun x : Nd => x.f2) none).getD 0 == c) = false := beq_eq_false_iff_ne.2 (fun e => hc e.symm)
    rw [this]
    rfl
  | some q =>
    obtain ⟨hq, hp, hb⟩ := List.findIdx?_eq_some_iff_getElem.1 h
    have hf : l.find? (fun x : Nd => x.f0.toList == p.toList) = some l[q] := by
      rw [List.find?_eq_some_iff_getElem]
      exact ⟨hp, q, hq, rfl, fun j hj => by simpa using hb j hj⟩
    rw [hf]
    simp only
    rw [decide_eq_true (by omega), decide_eq_true (by omega), rd_at hq]
    rfl
theorem more_last : ∀ (l : List Nd) (last : ByteArray), l ≠ [] → l.foldl (fun _ n => n.f0) last = (rd_T23 l ((l.length : Int) - 1)).f0 := by
  intro l last h
  have hlen : 0 < l.length := List.length_pos_iff.2 h
  have e : ((l.length : Int) - 1) = ((l.length - 1 : Nat) : Int) := by omega
  rw [e, rd_at (by omega)]
  have hs : l = l.take (l.length - 1) ++ [l[l.length - 1]] := by
    rw [← List.take_succ_eq_append_getElem (by omega), List.take_of_length_le (by omega)]
  conv => lhs; rw [hs]
  rw [List.foldl_append]
  rfl
theorem less_empty_more (s : ByteArray) (h : s.data.toList ≠ []) : Op.bytesLess (⟨#[]⟩ : ByteArray).toList s.toList = true := by
  rw [Lib.toList_data, Lib.toList_data]
  cases hs : s.data.toList with
  | nil => exact absurd hs h
  | cons c t => rfl
theorem more_step {l : List Nd} {n : Nd} (hn : okN n = true) : step l (l.foldl (fun (_ : ByteArray) (m : Nd) => m.f0) ⟨#[]⟩) n = (one n && ((!(parentOf n.f0).2 || (seen l (parentOf n.f0).1 == 53)) && ((!(n.f2 == 49) || (seen l n.f1 == 48)) && moreBehind l n.f0))) := by
  unfold step
  cases ho : one n with
  | false => rw [Bool.false_and, Bool.false_and]
  | true =>
  have hb : (!(Op.bytesLess n.f0.toList (l.foldl (fun (_ : ByteArray) (m : Nd) => m.f0) ⟨#[]⟩).toList || n.f0.toList == (l.foldl (fun (_ : ByteArray) (m : Nd) => m.f0) ⟨#[]⟩).toList)) = moreBehind l n.f0 := by
    rw [leq_less, Bool.not_not]
    unfold moreBehind
    by_cases h : l = []
    · subst h
      exact less_empty_more n.f0 (mayL_ne (one_may hn ho))
    · rw [more_last l _ h, decide_eq_false (fun e => h (List.eq_nil_of_length_eq_zero e)), Bool.false_or]
  rw [hb]
  cases moreBehind l n.f0 <;> cases (parentOf n.f0).2 <;> cases (seen l (parentOf n.f0).1 == 53) <;> cases (n.f2 == 49) <;> cases (seen l n.f1 == 48) <;> rfl
theorem TreeMore_told (l : List Nd) (n : Nd) : ∃ k, reelkeeperlaw06_TreeMore.f k l n.f0 n.f1 n.f2 n.f3 n.f4 n.f5 n.f6 n.f7 = some true := by
  refine Ev.rounds ?_
  unfold reelkeeperlaw06_TreeMore.f
  refine Ev.bind awake6_ev ?_
  refine Ev.bind (few_ev l) ?_
  refine Ev.bind (Ev.of_eq fun _ => few5 n) ?_
  refine Ev.if_pos rfl ?_
  cases hf : fewL l with
  | false => exact Ev.if_neg (by decide) (Ev.now _)
  | true =>
  refine Ev.if_pos rfl ?_
  cases hn : okN n with
  | false => exact Ev.if_neg (by decide) (Ev.now _)
  | true =>
  refine Ev.if_pos rfl ?_
  obtain ⟨hl, hok⟩ := fewL_iff.1 hf
  have hsz := okN_iff.1 hn
  refine Ev.bind (may_ev hok) ?_
  cases hm : mayF l with
  | false => exact Ev.if_neg (by decide) (Ev.now _)
  | true =>
  refine Ev.if_pos rfl ?_
  unfold mayF at hm
  rw [Bool.and_eq_true, decide_eq_true_eq] at hm
  obtain ⟨hl2, hT⟩ := hm
  refine Ev.bind (parentOf_ev (s := n.f0) (by omega)).1 ?_
  refine Ev.bind (Ev.of_eq fun _ => rfl) ?_
  refine Ev.bind (Ev.of_eq fun _ => rfl) ?_
  have hok2 : ∀ x ∈ l ++ [n], okN x = true := by
    intro x hx
    rcases List.mem_append.1 hx with h | h
    · exact hok x h
    · rw [List.mem_singleton.1 h]; exact hn
  refine Ev.bind (may_ev (l := l ++ [⟨n.f0, n.f1, n.f2, n.f3, n.f4, n.f5, n.f6, n.f7⟩]) hok2) ?_
  refine Ev.bind (Ev.of_eq fun _ => one_f hn) ?_
  refine Ev.if_pos (by omega) ?_
  have key : mayF (l ++ [⟨n.f0, n.f1, n.f2, n.f3, n.f4, n.f5, n.f6, n.f7⟩]) = (decide (l.length < 20) && (one n && ((!(parentOf n.f0).2 || moreDir l (idxOf (fun x : Nd => x.f0.toList == (parentOf n.f0).1.toList) l) 53) && ((!(n.f2 == 49) || moreDir l (idxOf (fun x : Nd => x.f0.toList == n.f1.toList) l) 48) && moreBehind l n.f0)))) := by
    rw [more_seen l _ (by decide), more_seen l _ (by decide), ← more_step hn]
    unfold mayF
    rw [mayT_append, hT, Bool.true_and, List.nil_append, List.length_append]
    unfold mayT mayT
    rw [Bool.and_true]
    rw [show decide (l.length + [(⟨n.f0, n.f1, n.f2, n.f3, n.f4, n.f5, n.f6, n.f7⟩ : Nd)].length ≤ 20) = decide (l.length < 20) from decide_eq_decide.2 ⟨fun h => by simp at h; omega, fun h => by simp; omega⟩]
  rw [key]
  refine Ev.of_eq fun _ => ?_
  rw [beq_self_eq_true]

end Go.Proofs.Ytddjnicmpgbcgaa.X
