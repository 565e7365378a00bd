/- What the reference of layer 6 tells of one node, plainly. -/
import Derived.Test.YtekfgmpldgoglaaXK
import Derived.Test.YtekfgmpldgoglaaXGreelkeeperref06
import Derived.Test.YtekfgmpldgoglaaXGtree
import Derived.Test.YtekfgmpldgoglaaYAll
import Derived.Test.YtekfgmpldgoglaaYAll
import Derived.Test.YtekfgmpldgoglaaPGA
import Derived.Test.YtekfgmpldgoglaaPGR
import Derived.Test.YtekfgmpldgoglaaPGA
import Derived.Test.YtekfgmpldgoglaaPGR
import Derived.Test.YtekfgmpldgoglaaPGA
namespace Go.Proofs.Ytekfgmpldgoglaa.X
open Go.RowKit Go.Proofs.YtekfgmpldgoglaaW.PrintWords Go.Proofs.YtekfgmpldgoglaaW.PrintLast Go.Proofs.YtekfgmpldgoglaaW.PrintMore
attribute [local go_sem] max2_int min2_int max_two min_two
set_option linter.unusedVariables false
set_option linter.unusedSimpArgs false

open Go.Proofs.YtekfgmpldgoglaaY
def emptyB (s : ByteArray) : Bool := s.toList == ([] : List UInt8)
def askB (n : Nd) : Bool :=
  if n.f2 = 48 then emptyB n.f1 && decide (n.f7.size ≤ 4000) else if n.f2 = 49 then tree_kinds_2.ask n.f3 n.f4 n.f5 n.f6 n.f7 && mayL n.f1.data.toList else if n.f2 = 50 then textB n.f1 && emptyB n.f7 else if n.f2 = 53 then emptyB n.f1 && emptyB n.f7 else false
def inB (x most : Int) : Bool := decide (x ≥ 0) && decide (x ≤ most)
def oneQ (n : Nd) : Bool := askB n && mayL n.f0.data.toList && inB n.f3 4095 && inB n.f4 1099511627776 && inB n.f5 1099511627776 && inB n.f6 1099511627776
theorem emptyB_if (s : ByteArray) {x : Bool} : (if s.toList = ([] : List UInt8) then some x else some false) = some (emptyB s && x) := by
  unfold emptyB
  by_cases h : s.toList = ([] : List UInt8)
  · rw [if_pos h, h]; rfl
  · rw [if_neg h, beq_eq_false_iff_ne.2 h]; rfl
theorem oneQ_f {n : Nd} (h : okN n = true) : tree_One.f n.f0 n.f1 n.f2 n.f3 n.f4 n.f5 n.f6 n.f7 = some (oneQ n) := by
  obtain ⟨h0, h1, _⟩ := okN_iff.1 h
  have hm0 : path_May.f n.f0 = some (mayL n.f0.data.toList) := may_f (by omega)
  have hm1 : path_May.f n.f1 = some (mayL n.f1.data.toList) := may_f (by omega)
  have e7 : decide ((n.f7.size : Int) ≤ 4000) = decide (n.f7.size ≤ 4000) := by congr 1; exact propext ⟨fun _ => by omega, fun _ => by omega⟩
  have hq : tree_One.ask n.f0 n.f1 n.f2 n.f3 n.f4 n.f5 n.f6 n.f7 = some (askB n) := by
    unfold tree_One.ask askB
    by_cases c1 : n.f2 = 48
    · rw [if_pos c1, if_pos c1]
      unfold tree_kinds_1.f
      rw [emptyB_if, e7]
    rw [if_neg c1, if_neg c1]
    by_cases c2 : n.f2 = 49
    · rw [if_pos c2, if_pos c2]
      unfold tree_kinds_2.f
      cases hk : tree_kinds_2.ask n.f3 n.f4 n.f5 n.f6 n.f7 with
      | true => rw [if_pos rfl, hm1, Bool.true_and]
      | false => rw [if_neg (by decide), Bool.false_and]
    rw [if_neg c2, if_neg c2]
    by_cases c3 : n.f2 = 50
    · rw [if_pos c3, if_pos c3]
      unfold tree_kinds_3.f
      rw [long_text]
      cases textB n.f1 <;> rfl
    rw [if_neg c3, if_neg c3]
    by_cases c4 : n.f2 = 53
    · rw [if_pos c4, if_pos c4]
      unfold tree_kinds_4.f
      rw [emptyB_if]
      rfl
    rw [if_neg c4, if_neg c4]
  unfold tree_One.f
  rw [hq, hm0]
  rfl
theorem isE6 (s : ByteArray) : s.toList.isEmpty = (s.toList == ([] : List UInt8)) := by cases s.toList <;> rfl
theorem oneK_ask (n : Nd) : oneK (mayL n.f1.data.toList) (textB n.f1) n.f1 n.f2 n.f3 n.f4 n.f5 n.f6 n.f7 = askB n := by
  unfold oneK askB emptyB tree_kinds_2.ask
  rw [isE6, isE6]
  by_cases c1 : n.f2 = 48
  · rw [if_pos c1, if_pos c1]
  rw [if_neg c1, if_neg c1]
  by_cases c2 : n.f2 = 49
  · rw [if_pos c2, if_pos c2]
    cases mayL n.f1.data.toList <;> cases (n.f3 == 0) <;> cases (n.f4 == 0) <;> cases (n.f5 == 0) <;> cases (n.f6 == 0) <;> cases (n.f7.toList == ([] : List UInt8)) <;> rfl
  rw [if_neg c2, if_neg c2]
theorem ge_not (a : Int) : (!decide (a < 0)) = decide (a ≥ 0) := by
  by_cases h : a < 0
  · rw [decide_eq_true h, decide_eq_false (by omega)]; rfl
  · rw [decide_eq_false h, decide_eq_true (by omega)]; rfl
theorem le_not (a b : Int) : (!decide (b < a)) = decide (a ≤ b) := by
  by_cases h : b < a
  · rw [decide_eq_true h, decide_eq_false (by omega)]; rfl
  · rw [decide_eq_false h, decide_eq_true (by omega)]; rfl
theorem ref_oneQ {n : Nd} (h : okN n = true) : Ev (fun k => reelkeeperref06_One.f k n.f0 n.f1 n.f2 n.f3 n.f4 n.f5 n.f6 n.f7) (oneQ n) := by
  obtain ⟨h0, h1, _⟩ := okN_iff.1 h
  unfold reelkeeperref06_One.f
  refine Ev.bind (ref_may n.f0 (by omega)) ?_
  refine Ev.bind (ref_may n.f1 (by omega)) ?_
  refine Ev.bind (ref_text n.f1 (by omega)) ?_
  have e : oneR (mayL n.f0.data.toList) (mayL n.f1.data.toList) (textB n.f1) n.f1 n.f2 n.f3 n.f4 n.f5 n.f6 n.f7 = oneQ n := by
    unfold oneR oneQ inB
    rw [oneK_ask, ge_not, ge_not, ge_not, ge_not, le_not, le_not, le_not, le_not]
    generalize askB n = a
    generalize decide (n.f3 ≥ 0) = b1
    generalize decide (n.f3 ≤ 4095) = b2
    generalize decide (n.f4 ≥ 0) = b3
    generalize decide (n.f4 ≤ 1099511627776) = b4
    generalize decide (n.f5 ≥ 0) = b5
    generalize decide (n.f5 ≤ 1099511627776) = b6
    generalize decide (n.f6 ≥ 0) = b7
    generalize decide (n.f6 ≤ 1099511627776) = b8
    cases mayL n.f0.data.toList <;> cases a <;> cases b1 <;> cases b2 <;> cases b3 <;> cases b4 <;> cases b5 <;> cases b6 <;> cases b7 <;> cases b8 <;> rfl
  rw [e]
  exact Ev.now _

end Go.Proofs.Ytekfgmpldgoglaa.X
