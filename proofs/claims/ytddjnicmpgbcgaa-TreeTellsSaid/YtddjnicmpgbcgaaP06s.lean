/- What the reference of layer 6 tells of one node and of a tree, plainly. -/
import Derived.Test.YtddjnicmpgbcgaaXK
import Derived.Test.YtddjnicmpgbcgaaXGreelkeeperref06
import Derived.Test.YtddjnicmpgbcgaaXGreelkeeperref062
import Derived.Test.YtddjnicmpgbcgaaXGtree
import Derived.Test.YtddjnicmpgbcgaaXGtree
import Derived.Test.YtddjnicmpgbcgaaYPath
import Derived.Test.YtddjnicmpgbcgaaYBytes
import Derived.Test.YtddjnicmpgbcgaaP02m
import Derived.Test.YtddjnicmpgbcgaaP02r
import Derived.Test.YtddjnicmpgbcgaaP06a
import Derived.Test.YtddjnicmpgbcgaaP06b
import Derived.Test.YtddjnicmpgbcgaaP06c
import Derived.Test.YtddjnicmpgbcgaaP06r
namespace Go.Proofs.Ytddjnicmpgbcgaa.X
open Go.RowKit Go.Proofs.YtddjnicmpgbcgaaW.PrintWords Go.Proofs.YtddjnicmpgbcgaaW.PrintLast Go.Proofs.YtddjnicmpgbcgaaW.PrintMore
attribute [local go_sem] max2_int min2_int max_two min_two max_three min_three max_four min_four
set_option linter.unusedVariables false
set_option linter.unusedSimpArgs false

open Go.Proofs.YtddjnicmpgbcgaaY
def emptyB (s : ByteArray) : Bool := s.toList == ([] : List UInt8)
def askB (n : Nd) : Bool :=
  if n.f2 = 48 then emptyB n.f1 && decide (n.f7.size ≤ 4000) else if n.f2 = 49 then tree_kinds_2.ask n.f3 n.f4 n.f5 n.f6 n.f7 && mayL n.f1.data.toList else if n.f2 = 50 then textB n.f1 && emptyB n.f7 else if n.f2 = 53 then emptyB n.f1 && emptyB n.f7 else false
def inB (x most : Int) : Bool := decide (x ≥ 0) && decide (x ≤ most)
def oneB (n : Nd) : Bool := askB n && mayL n.f0.data.toList && inB n.f3 4095 && inB n.f4 1099511627776 && inB n.f5 1099511627776 && inB n.f6 1099511627776
theorem emptyB_if (s : ByteArray) {x : Bool} : (if s.toList = ([] : List UInt8) then some x else some false) = some (emptyB s && x) := by
  unfold emptyB
  by_cases h : s.toList = ([] : List UInt8)
  · rw [if_pos h, h]; rfl
  · rw [if_neg h, beq_eq_false_iff_ne.2 h]; rfl
theorem one_eq {n : Nd} (h : okN n = true) : one n = oneB n := by
  obtain ⟨h0, h1, _⟩ := okN_iff.1 h
  have hm0 : path_May.f n.f0 = some (mayL n.f0.data.toList) := may_f (by omega)
  have hm1 : path_May.f n.f1 = some (mayL n.f1.data.toList) := may_f (by omega)
  have e7 : decide ((n.f7.size : Int) ≤ 4000) = decide (n.f7.size ≤ 4000) := by congr 1; exact propext ⟨fun _ => by omega, fun _ => by omega⟩
  have hq : tree_One.ask n.f0 n.f1 n.f2 n.f3 n.f4 n.f5 n.f6 n.f7 = some (askB n) := by
    unfold tree_One.ask askB
    by_cases c1 : n.f2 = 48
    · rw [if_pos c1, if_pos c1]
      unfold tree_kinds_1.f
      rw [emptyB_if, e7]
    rw [if_neg c1, if_neg c1]
    by_cases c2 : n.f2 = 49
    · rw [if_pos c2, if_pos c2]
      unfold tree_kinds_2.f
      cases hk : tree_kinds_2.ask n.f3 n.f4 n.f5 n.f6 n.f7 with
      | true => rw [if_pos rfl, hm1, Bool.true_and]
      | false => rw [if_neg (by decide), Bool.false_and]
    rw [if_neg c2, if_neg c2]
    by_cases c3 : n.f2 = 50
    · rw [if_pos c3, if_pos c3]
      unfold tree_kinds_3.f
      rw [long_text]
      cases textB n.f1 <;> rfl
    rw [if_neg c3, if_neg c3]
    by_cases c4 : n.f2 = 53
    · rw [if_pos c4, if_pos c4]
      unfold tree_kinds_4.f
      rw [emptyB_if]
      rfl
    rw [if_neg c4, if_neg c4]
  unfold one tree_One.f
  rw [hq, hm0]
  rfl
theorem if_and {c : Prop} [Decidable c] {b x : Bool} (hb : b = decide c) : (if c then some x else some false) = some (b && x) := by
  subst hb
  by_cases h : c <;> simp [h]
theorem ref_one_j (n : Nd) (bad : Bool) : Ev (fun k => reelkeeperref06_One.j0 k (mayL n.f1.data.toList) (textB n.f1) bad n.f0 n.f1 n.f2 n.f3 n.f4 n.f5 n.f6 n.f7) (!bad && askB n) := by
  have e7 : decide ((n.f7.size : Int) ≤ 4000) = decide (n.f7.size ≤ 4000) := by congr 1; exact propext ⟨fun _ => by omega, fun _ => by omega⟩
  refine Ev.step (fun _ => rfl) ?_
  simp only [reelkeeperref06_One.j0]
  cases bad with
  | true => exact Ev.if_pos rfl (Ev.now _)
  | false =>
  refine Ev.if_neg (by decide) ?_
  rw [Bool.not_false, Bool.true_and]
  unfold askB
  by_cases c1 : n.f2 = 48
  · refine Ev.if_pos c1 ?_
    rw [if_pos c1, emptyB_if, e7]
    exact Ev.now _
  refine Ev.if_neg c1 ?_
  rw [if_neg c1]
  by_cases c2 : n.f2 = 49
  · refine Ev.if_pos c2 ?_
    rw [if_pos c2]
    refine Ev.of_eq fun _ => ?_
    unfold tree_kinds_2.ask
    cases mayL n.f1.data.toList with
    | false => simp
    | true =>
      rw [if_pos rfl, Bool.and_true]
      rw [if_and (b := n.f5 == 0) (x := n.f6 == 0) (by simp [BEq.beq]), if_and (b := n.f4 == 0) (by simp [BEq.beq]), if_and (b := n.f3 == 0) (by simp [BEq.beq]), emptyB_if]
      unfold emptyB
      congr 1
      cases (n.f3 == 0) <;> cases (n.f4 == 0) <;> cases (n.f5 == 0) <;> cases (n.f6 == 0) <;> cases (n.f7.toList == ([] : List UInt8)) <;> rfl
  refine Ev.if_neg c2 ?_
  rw [if_neg c2]
  by_cases c3 : n.f2 = 50
  · refine Ev.if_pos c3 ?_
    rw [if_pos c3]
    refine Ev.of_eq fun _ => ?_
    cases textB n.f1 <;> rfl
  refine Ev.if_neg c3 ?_
  rw [if_neg c3]
  by_cases c4 : n.f2 = 53
  · refine Ev.if_pos c4 ?_
    rw [if_pos c4, emptyB_if]
    exact Ev.now _
  refine Ev.if_neg c4 ?_
  rw [if_neg c4]
  exact Ev.now _
theorem ref_one {n : Nd} (h : okN n = true) : Ev (fun k => reelkeeperref06_One.f k n.f0 n.f1 n.f2 n.f3 n.f4 n.f5 n.f6 n.f7) (one n) := by
  obtain ⟨h0, h1, _⟩ := okN_iff.1 h
  rw [one_eq h]
  unfold reelkeeperref06_One.f
  refine Ev.bind (ref_may n.f0 (by omega)) ?_
  refine Ev.bind (ref_may n.f1 (by omega)) ?_
  refine Ev.bind (ref_text n.f1 h1) ?_
  have up : ∀ {b : Bool}, b = false → Ev (fun k => reelkeeperref06_One.j0 k (mayL n.f1.data.toList) (textB n.f1) true n.f0 n.f1 n.f2 n.f3 n.f4 n.f5 n.f6 n.f7) b := by
    rintro b rfl
    exact ref_one_j n true
  unfold oneB inB
  cases hm : mayL n.f0.data.toList with
  | false => exact Ev.if_neg (by decide) (up (by simp))
  | true =>
  refine Ev.if_pos rfl ?_
  by_cases a1 : n.f3 < 0
  · exact Ev.if_pos a1 (up (by simp; omega))
  refine Ev.if_neg a1 ?_
  by_cases a2 : n.f3 > 4095
  · exact Ev.if_pos a2 (up (by simp; omega))
  refine Ev.if_neg a2 ?_
  by_cases a3 : n.f4 < 0
  · exact Ev.if_pos a3 (up (by simp; omega))
  refine Ev.if_neg a3 ?_
  by_cases a4 : n.f4 > 1099511627776
  · exact Ev.if_pos a4 (up (by simp; omega))
  refine Ev.if_neg a4 ?_
  by_cases a5 : n.f5 < 0
  · exact Ev.if_pos a5 (up (by simp; omega))
  refine Ev.if_neg a5 ?_
  by_cases a6 : n.f5 > 1099511627776
  · exact Ev.if_pos a6 (up (by simp; omega))
  refine Ev.if_neg a6 ?_
  by_cases a7 : n.f6 < 0
  · exact Ev.if_pos a7 (up (by simp; omega))
  refine Ev.if_neg a7 ?_
  have hj := ref_one_j n (decide (n.f6 > 1099511627776))
  have he : (askB n && true && (decide (n.f3 ≥ 0) && decide (n.f3 ≤ 4095)) && (decide (n.f4 ≥ 0) && decide (n.f4 ≤ 1099511627776)) && (decide (n.f5 ≥ 0) && decide (n.f5 ≤ 1099511627776)) && (decide (n.f6 ≥ 0) && decide (n.f6 ≤ 1099511627776))) = (!decide (n.f6 > 1099511627776) && askB n) := by
    rw [decide_eq_true (show n.f3 ≥ 0 by omega), decide_eq_true (show n.f3 ≤ 4095 by omega), decide_eq_true (show n.f4 ≥ 0 by omega), decide_eq_true (show n.f4 ≤ 1099511627776 by omega), decide_eq_true (show n.f5 ≥ 0 by omega), decide_eq_true (show n.f5 ≤ 1099511627776 by omega), decide_eq_true (show n.f6 ≥ 0 by omega)]
    by_cases a8 : n.f6 > 1099511627776
    · rw [decide_eq_true a8, decide_eq_false (show ¬ n.f6 ≤ 1099511627776 by omega)]; simp
    · rw [decide_eq_false a8, decide_eq_true (show n.f6 ≤ 1099511627776 by omega)]; simp
  rw [he]
  exact hj

end Go.Proofs.Ytddjnicmpgbcgaa.X
