/- Nodes that may be alone, plainly. -/
import Derived.Test.YtpedagpcblnnhaaXK
import Derived.Test.YtpedagpcblnnhaaXGtree
import Derived.Test.YtpedagpcblnnhaaYAll
import Derived.Test.YtpedagpcblnnhaaPGA
import Derived.Lib.IndexAny
namespace Go.Proofs.Ytpedagpcblnnhaa.X
open Go.RowKit Go.Proofs.YtpedagpcblnnhaaW.PrintWords Go.Proofs.YtpedagpcblnnhaaW.PrintLast Go.Proofs.YtpedagpcblnnhaaW.PrintMore
attribute [local go_sem] max2_int min2_int max_two min_two
set_option linter.unusedVariables false
set_option linter.unusedSimpArgs false

open Go.Proofs.YtpedagpcblnnhaaY
theorem nil_size (s : ByteArray) : (s.toList == ([] : List UInt8)) = decide (s.size = 0) := by
  rw [Bool.eq_iff_iff, beq_iff_eq, decide_eq_true_eq, Lib.toList_data]
  have h : s.data.toList.length = s.size := Array.length_toList
  constructor
  · intro e; rw [e] at h; simpa using h.symm
  · intro e; rw [e] at h; exact List.eq_nil_of_length_eq_zero h
theorem nil_size' (s : ByteArray) : s.toList = ([] : List UInt8) ↔ s.size = 0 := by
  have := nil_size s
  rw [Bool.eq_iff_iff, beq_iff_eq, decide_eq_true_eq] at this
  exact this
/-- What else a node of its kind has. -/
def oneKind (n : Nd) : Bool :=
  if n.f2 = 48 then decide (n.f1.size = 0) && decide (n.f7.size ≤ 4000)
  else if n.f2 = 49 then (n.f3 == 0 && (n.f4 == 0 && (n.f5 == 0 && (n.f6 == 0 && decide (n.f7.size = 0))))) && mayL n.f1.data.toList
  else if n.f2 = 50 then textB n.f1 && decide (n.f7.size = 0)
  else if n.f2 = 53 then decide (n.f1.size = 0) && decide (n.f7.size = 0)
  else false
def oneB (n : Nd) : Bool := oneKind n && mayL n.f0.data.toList && (decide (n.f3 ≥ 0) && decide (n.f3 ≤ 4095)) && (decide (n.f4 ≥ 0) && decide (n.f4 ≤ 1099511627776)) && (decide (n.f5 ≥ 0) && decide (n.f5 ≤ 1099511627776)) && (decide (n.f6 ≥ 0) && decide (n.f6 ≤ 1099511627776))
theorem ask_b (n : Nd) (h1 : n.f1.size ≤ 9223372036854775807) : tree_One.ask n.f0 n.f1 n.f2 n.f3 n.f4 n.f5 n.f6 n.f7 = some (oneKind n) := by
  unfold tree_One.ask oneKind
  by_cases c1 : n.f2 = 48
  · rw [if_pos c1, if_pos c1]
    unfold tree_kinds_1.f
    by_cases c : n.f1.size = 0
    · rw [if_pos ((nil_size' _).2 c), decide_eq_true c, Bool.true_and]
      congr 2
      exact propext ⟨fun _ => by omega, fun _ => by omega⟩
    · rw [if_neg (fun e => c ((nil_size' _).1 e)), decide_eq_false c]; rfl
  rw [if_neg c1, if_neg c1]
  by_cases c2 : n.f2 = 49
  · rw [if_pos c2, if_pos c2]
    unfold tree_kinds_2.f tree_kinds_2.ask
    rw [nil_size]
    cases (n.f3 == 0 && (n.f4 == 0 && (n.f5 == 0 && (n.f6 == 0 && decide (n.f7.size = 0))))) with
    | true => rw [if_pos rfl, may_f h1, Bool.true_and]
    | false => rfl
  rw [if_neg c2, if_neg c2]
  by_cases c3 : n.f2 = 50
  · rw [if_pos c3, if_pos c3]
    unfold tree_kinds_3.f
    rw [long_text, nil_size]
    cases textB n.f1 <;> rfl
  rw [if_neg c3, if_neg c3]
  by_cases c4 : n.f2 = 53
  · rw [if_pos c4, if_pos c4]
    unfold tree_kinds_4.f
    rw [nil_size]
    by_cases c : n.f1.size = 0
    · rw [if_pos ((nil_size' _).2 c), decide_eq_true c, Bool.true_and]
    · rw [if_neg (fun e => c ((nil_size' _).1 e)), decide_eq_false c]; rfl
  rw [if_neg c4, if_neg c4]
theorem one_b (n : Nd) (h0 : n.f0.size ≤ 9223372036854775807) (h1 : n.f1.size ≤ 9223372036854775807) : tree_One.f n.f0 n.f1 n.f2 n.f3 n.f4 n.f5 n.f6 n.f7 = some (oneB n) := by
  unfold tree_One.f oneB
  rw [ask_b n h1, may_f h0]
  rfl
structure OneFacts (n : Nd) : Prop where
  path : mayL n.f0.data.toList = true
  mode : 0 ≤ n.f3 ∧ n.f3 ≤ 4095
  uid : 0 ≤ n.f4 ∧ n.f4 ≤ 1099511627776
  gid : 0 ≤ n.f5 ∧ n.f5 ≤ 1099511627776
  time : 0 ≤ n.f6 ∧ n.f6 ≤ 1099511627776
  kind : (n.f2 = 48 ∧ n.f1.size = 0 ∧ n.f7.size ≤ 4000) ∨ (n.f2 = 49 ∧ mayL n.f1.data.toList = true ∧ n.f7.size = 0 ∧ n.f3 = 0 ∧ n.f4 = 0 ∧ n.f5 = 0 ∧ n.f6 = 0) ∨ (n.f2 = 50 ∧ textB n.f1 = true ∧ n.f7.size = 0) ∨ (n.f2 = 53 ∧ n.f1.size = 0 ∧ n.f7.size = 0)
theorem oneB_facts {n : Nd} (h : oneB n = true) : OneFacts n := by
  unfold oneB oneKind at h
  simp only [Bool.and_eq_true, decide_eq_true_eq] at h
  obtain ⟨⟨⟨⟨⟨hk, hp⟩, hm⟩, hu⟩, hg⟩, ht⟩ := h
  refine ⟨hp, ⟨by omega, by omega⟩, ⟨by omega, by omega⟩, ⟨by omega, by omega⟩, ⟨by omega, by omega⟩, ?_⟩
  by_cases c1 : n.f2 = 48
  · rw [if_pos c1] at hk
    simp only [Bool.and_eq_true, decide_eq_true_eq] at hk
    exact .inl ⟨c1, hk.1, hk.2⟩
  rw [if_neg c1] at hk
  by_cases c2 : n.f2 = 49
  · rw [if_pos c2] at hk
    simp only [Bool.and_eq_true, decide_eq_true_eq, beq_iff_eq] at hk
    exact .inr (.inl ⟨c2, hk.2, hk.1.2.2.2.2, hk.1.1, hk.1.2.1, hk.1.2.2.1, hk.1.2.2.2.1⟩)
  rw [if_neg c2] at hk
  by_cases c3 : n.f2 = 50
  · rw [if_pos c3] at hk
    simp only [Bool.and_eq_true, decide_eq_true_eq] at hk
    exact .inr (.inr (.inl ⟨c3, hk.1, hk.2⟩))
  rw [if_neg c3] at hk
  by_cases c4 : n.f2 = 53
  · rw [if_pos c4] at hk
    simp only [Bool.and_eq_true, decide_eq_true_eq] at hk
    exact .inr (.inr (.inr ⟨c4, hk.1, hk.2⟩))
  rw [if_neg c4] at hk
  cases hk

end Go.Proofs.Ytpedagpcblnnhaa.X
