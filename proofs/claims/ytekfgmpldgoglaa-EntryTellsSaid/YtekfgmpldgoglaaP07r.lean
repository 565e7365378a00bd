/- Layer 7's reference, plainly. -/
import Derived.Test.YtekfgmpldgoglaaXK
import Derived.Test.YtekfgmpldgoglaaXreelkeeperref07Head
import Derived.Test.YtekfgmpldgoglaaXGref07put
import Derived.Test.YtekfgmpldgoglaaXreelkeeperref07Many
import Derived.Test.YtekfgmpldgoglaaXreelkeeperref07Data
import Derived.Test.YtekfgmpldgoglaaXGentry
import Derived.Test.YtekfgmpldgoglaaXGentry
import Derived.Test.YtekfgmpldgoglaaXGentry
import Derived.Test.YtekfgmpldgoglaaYAll
import Derived.Test.YtekfgmpldgoglaaYAll
import Derived.Test.YtekfgmpldgoglaaYAll
import Derived.Test.YtekfgmpldgoglaaYAll
import Derived.Test.YtekfgmpldgoglaaPGA
import Derived.Test.YtekfgmpldgoglaaPGA
import Derived.Test.YtekfgmpldgoglaaPGR
import Derived.Test.YtekfgmpldgoglaaPGR
import Derived.Test.YtekfgmpldgoglaaPGA
import Derived.Test.YtekfgmpldgoglaaPGR
import Derived.Test.YtekfgmpldgoglaaPGA
import Derived.Test.YtekfgmpldgoglaaPGA
import Derived.Test.YtekfgmpldgoglaaPGR
import Derived.Test.YtekfgmpldgoglaaPGA
import Derived.Test.YtekfgmpldgoglaaPGA
import Derived.Test.YtekfgmpldgoglaaPGR
import Derived.Test.YtekfgmpldgoglaaPGA
import Derived.Test.YtekfgmpldgoglaaPGA
import Derived.Test.YtekfgmpldgoglaaPGA
import Derived.Test.YtekfgmpldgoglaaPGR
import Derived.Test.YtekfgmpldgoglaaPGA
import Derived.Test.YtekfgmpldgoglaaPGA
import Derived.Test.YtekfgmpldgoglaaP06q
import Derived.Test.YtekfgmpldgoglaaPGE
import Derived.Test.YtekfgmpldgoglaaPGE
import Derived.Test.YtekfgmpldgoglaaPGE
import Derived.Test.YtekfgmpldgoglaaPGE
import Derived.Lib.IndexAny
namespace Go.Proofs.Ytekfgmpldgoglaa.X
open Go.RowKit Go.Proofs.YtekfgmpldgoglaaW.PrintWords Go.Proofs.YtekfgmpldgoglaaW.PrintLast Go.Proofs.YtekfgmpldgoglaaW.PrintMore
attribute [local go_sem] max2_int min2_int max_two min_two
set_option linter.unusedVariables false
set_option linter.unusedSimpArgs false

open Go.Proofs.YtekfgmpldgoglaaY
theorem oneQ_B {n : Nd} (h : okN n = true) : oneQ n = oneB n := by
  obtain ⟨h0, h1, _⟩ := okN_iff.1 h
  have h2 := oneQ_f h
  rw [one_b n (by omega) (by omega)] at h2
  exact (Option.some.inj h2).symm
theorem refOne7 {n : Nd} (h : okN n = true) : Ev (fun k => reelkeeperref06_One.f k n.f0 n.f1 n.f2 n.f3 n.f4 n.f5 n.f6 n.f7) (oneB n) := by
  rw [← oneQ_B h]
  exact ref_oneQ h
/-- What Head tells. -/
def headP (n : Nd) : ByteArray × ByteArray × ByteArray × Int × Int × Int × Int × Int × Int × Int × Int × Bool :=
  if oneB n = true then ((entryHd n).f0, (entryHd n).f1, (entryHd n).f2, (entryHd n).f3, (entryHd n).f4, (entryHd n).f5, (entryHd n).f6, (entryHd n).f7, (entryHd n).f8, (entryHd n).f9, (entryHd n).f10, true)
  else ((⟨#[]⟩ : ByteArray), (⟨#[]⟩ : ByteArray), (⟨#[]⟩ : ByteArray), 0, 0, 0, 0, 0, 0, 0, 0, false)
theorem headP_f {n : Nd} (h : okN n = true) : entry_Head.f n.f0 n.f1 n.f2 n.f3 n.f4 n.f5 n.f6 n.f7 = some (headP n) := by
  obtain ⟨h0, h1, _⟩ := okN_iff.1 h
  unfold headP
  cases ho : oneB n with
  | true => rw [entryHead_yes ho]; rfl
  | false => rw [entryHead_no (by omega) (by omega) ho]; rfl
theorem refHead_ev {n : Nd} (h : okN n = true) : Ev (fun k => reelkeeperref07_Head.f k n.f0 n.f1 n.f2 n.f3 n.f4 n.f5 n.f6 n.f7) (headP n) := by
  obtain ⟨h0, h1, _⟩ := okN_iff.1 h
  unfold reelkeeperref07_Head.f headP
  refine Ev.bind (refOne7 h) ?_
  cases ho : oneB n with
  | true =>
    refine Ev.if_pos rfl ?_
    exact Ev.bind (refNames_ev n.f0 n.f1 n.f2 n.f3 n.f4 n.f5 n.f6 n.f7 (by omega)) (Ev.now _)
  | false => exact Ev.if_neg (by decide) (Ev.now _)
theorem refPut7_ev {n : Nd} (h : okN n = true) : Ev (fun k => reelkeeperref07_Put.f k n.f0 n.f1 n.f2 n.f3 n.f4 n.f5 n.f6 n.f7) (entryP n) := by
  obtain ⟨h0, h1, _⟩ := okN_iff.1 h
  unfold reelkeeperref07_Put.f entryP
  refine Ev.bind (refHead_ev h) ?_
  unfold headP
  cases ho : oneB n with
  | true =>
    have hf := oneB_facts ho
    have hd := hf.data
    obtain ⟨⟨o1, o2, o3⟩, ⟨p1, p2⟩, ⟨l1, l2⟩⟩ := names_good hf.path hf.link.1
    refine Ev.if_pos rfl ?_
    have hp := refPut_ev (entryHd n) (entryHd_in hf) (by show (namesB n.f0 n.f1).1.size ≤ _; omega) (by show (namesB n.f0 n.f1).2.1.size ≤ _; omega) (by show (namesB n.f0 n.f1).2.2.size ≤ _; omega)
    rw [show headPut (entryHd n) = (hdBlk (entryHd n), true) by unfold headPut; rw [_root_.if_pos (entryHd_ok hf)]] at hp
    refine Ev.bind hp (Ev.bind (refAhead_ev n.f0 n.f1 n.f2 n.f3 n.f4 n.f5 n.f6 n.f7 (by omega) (by omega)) (Ev.bind (refCut_ev n.f7 (by omega)) ?_))
    refine Ev.if_pos ?_ (Ev.now _)
    have := aheadB_len (a0 := n.f0) (a1 := n.f1) (by omega) (by omega)
    rw [cutL_length]
    unfold manyB
    omega
  | false => exact Ev.if_neg (by rw [_root_.if_neg (by decide)]; decide) (Ev.now _)
theorem refMany7_ev {n : Nd} (h : okN n = true) : Ev (fun k => reelkeeperref07_Many.f k n.f0 n.f1 n.f2 n.f3 n.f4 n.f5 n.f6 n.f7) ((entryP n).1.length : Int) := by
  unfold reelkeeperref07_Many.f
  exact Ev.bind (refPut7_ev h) (Ev.now _)
theorem many7_f {n : Nd} (h : okN n = true) : entry_Many.f n.f0 n.f1 n.f2 n.f3 n.f4 n.f5 n.f6 n.f7 = some ((entryP n).1.length : Int) := by
  obtain ⟨h0, h1, _⟩ := okN_iff.1 h
  unfold entry_Many.f
  rw [entryPut_f (by omega) (by omega)]
  rfl
def dataP (n : Nd) : Int := if oneB n = true then (manyB n.f7.size : Int) else 0
theorem refData7_ev {n : Nd} (h : okN n = true) : Ev (fun k => reelkeeperref07_Data.f k n.f0 n.f1 n.f2 n.f3 n.f4 n.f5 n.f6 n.f7) (dataP n) := by
  obtain ⟨h0, h1, h2⟩ := okN_iff.1 h
  unfold reelkeeperref07_Data.f dataP
  refine Ev.bind (refOne7 h) ?_
  cases ho : oneB n with
  | true =>
    refine Ev.if_pos rfl (Ev.of_eq fun _ => ?_)
    rw [refMany_f (by omega)]
    rfl
  | false => exact Ev.if_neg (by decide) (Ev.now _)
theorem data7_f {n : Nd} (h : okN n = true) : entry_Data.f n.f0 n.f1 n.f2 n.f3 n.f4 n.f5 n.f6 n.f7 = some (dataP n) := by
  obtain ⟨h0, h1, h2⟩ := okN_iff.1 h
  unfold entry_Data.f dataP
  rw [one_b n (by omega) (by omega)]
  cases ho : oneB n with
  | true =>
    simp only [Option.bind_some, if_true]
    rw [many_f (by omega)]
    rfl
  | false => rfl

end Go.Proofs.Ytekfgmpldgoglaa.X
