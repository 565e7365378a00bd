/- Layer 2: the statement PathJoins, plainly. -/
import Derived.Test.YtachobpnpfkmjaaXK
import Derived.Test.YtachobpnpfkmjaaXreelkeeperlaw02awake
import Derived.Test.YtachobpnpfkmjaaXreelkeeperlaw02PathJoins
import Derived.Test.YtachobpnpfkmjaaYPath
import Derived.Test.YtachobpnpfkmjaaP02a
import Derived.Test.YtachobpnpfkmjaaP02f
import Derived.Test.YtachobpnpfkmjaaP02g
namespace Go.Proofs.Ytachobpnpfkmjaa.X
open Go.RowKit Go.Proofs.YtachobpnpfkmjaaW.PrintWords Go.Proofs.YtachobpnpfkmjaaW.PrintLast Go.Proofs.YtachobpnpfkmjaaW.PrintMore
attribute [local go_sem] max2_int min2_int max_two min_two max_three min_three max_four min_four
set_option linter.unusedVariables false
set_option linter.unusedSimpArgs false

open Go.Proofs.YtachobpnpfkmjaaY

theorem joins_j2 (a b z : ByteArray) (h1 : a.size ≤ 400) (h2 : b.size ≤ 400) (hzz : z.size = a.size + 1 + b.size) (e : z.data.toList = a.data.toList ++ 47 :: b.data.toList)
    (hma : mayL a.data.toList = true) (hmb : mayL b.data.toList = true) (hall : mayL z.data.toList = true) : Ev (fun k => reelkeeperlaw02_PathJoins.j2 k a b z true false) true := by
  have hL : (splitA z).length = (splitA a).length + (splitA b).length := by
    rw [splitA_len, splitA_len, splitA_len, e, splitL_append, List.length_append]
  have la := splitA_length a
  have lb := splitA_length b
  have hw : wrap64 (((splitA a).length : Int) + ((splitA b).length : Int)) = ((splitA z).length : Int) := by rw [wrap_id (by omega) (by omega)]; omega
  have hb : belowL z.data.toList a.data.toList = true := below_mk (r := b.data.toList) hall hma e
  refine Ev.step (fun _ => rfl) ?_
  simp only [reelkeeperlaw02_PathJoins.j2]
  have ez : path_Parts.f z = some (splitA z) := by rw [parts_f (by omega), hall]; rfl
  have ea : path_Parts.f a = some (splitA a) := by rw [parts_f (by omega), hma]; rfl
  have eb : path_Parts.f b = some (splitA b) := by rw [parts_f (by omega), hmb]; rfl
  have el : path_Below.f z a = some true := by rw [below_f (a := z) (b := a) (by omega) (by omega), hb]
  refine Ev.if_neg (by simp) (Ev.if_pos trivial ?_)
  refine Ev.bind (Ev.of_eq fun _ => ez) (Ev.bind (Ev.of_eq fun _ => ea) (Ev.bind (Ev.of_eq fun _ => eb) ?_))
  exact Ev.if_pos hw.symm (Ev.bind (Ev.of_eq fun _ => el) (Ev.now _))

theorem joins_j1 (a b : ByteArray) (h1 : a.size ≤ 400) (h2 : b.size ≤ 400) (c : Bool) (hc : c = (mayL a.data.toList && mayL b.data.toList && decide (a.data.toList.length + b.data.toList.length + 1 ≤ 300))) :
    Ev (fun k => reelkeeperlaw02_PathJoins.j1 k a b ((a ++ (⟨#[47]⟩ : ByteArray)) ++ b) c) true := by
  have hza : a.data.toList.length = a.size := Array.length_toList
  have hzb : b.data.toList.length = b.size := Array.length_toList
  have hzz : ((a ++ (⟨#[47]⟩ : ByteArray)) ++ b).size = a.size + 1 + b.size := by rw [ByteArray.size_append, ByteArray.size_append]; rfl
  have hzz1 : (a ++ (⟨#[47]⟩ : ByteArray)).size = a.size + 1 := by rw [ByteArray.size_append]; rfl
  have e : ((a ++ (⟨#[47]⟩ : ByteArray)) ++ b).data.toList = a.data.toList ++ 47 :: b.data.toList := by rw [app_data, app_data]; simp
  have hall : mayL ((a ++ (⟨#[47]⟩ : ByteArray)) ++ b).data.toList = c := by rw [e, mayL_append, hc]
  refine Ev.step (fun _ => rfl) ?_
  simp only [reelkeeperlaw02_PathJoins.j1]
  rw [may_f (s := (a ++ (⟨#[47]⟩ : ByteArray)) ++ b) (by omega), hall]
  simp only [Option.bind_some]
  refine Ev.if_neg (by simp) (Ev.if_pos (by omega) (Ev.if_pos (by omega) ?_))
  have hne : (((a ++ (⟨#[47]⟩ : ByteArray)) ++ b).toList != ((a ++ (⟨#[47]⟩ : ByteArray)) ++ b).toList) = false := by rw [bne_eq_false_iff_eq]
  rw [hne]
  cases c
  · refine Ev.step (fun _ => rfl) ?_
    simp only [reelkeeperlaw02_PathJoins.j2]
    exact Ev.if_neg (by simp) (Ev.if_neg (by simp) (Ev.now _))
  · have hc' := hc.symm
    simp only [Bool.and_eq_true] at hc'
    exact joins_j2 a b _ h1 h2 hzz e hc'.1.1 hc'.1.2 hall

theorem PathJoins : reelkeeperlaw02_PathJoins.Pure := by
  intro a b ha hb
  refine Ev.rounds ?_
  unfold reelkeeperlaw02_PathJoins.f
  refine Ev.bind awake_ev (Ev.if_pos rfl ?_)
  have hbad : Ev (fun k => reelkeeperlaw02_PathJoins.j0 k a b true true) true := Ev.step (fun _ => rfl) (by simp only [reelkeeperlaw02_PathJoins.j0]; exact Ev.if_pos trivial (Ev.now _))
  by_cases h1 : (a.size : Int) > 400
  · exact Ev.if_pos h1 hbad
  refine Ev.if_neg h1 ?_
  by_cases h2 : (b.size : Int) > 400
  · exact Ev.if_pos h2 hbad
  refine Ev.if_neg h2 ?_
  rw [Lib.toList_data]
  by_cases h3 : a.data.toList = []
  · rw [beq_iff_eq.2 h3]; exact hbad
  rw [beq_eq_false_iff_ne.2 h3]
  have hza : a.data.toList.length = a.size := Array.length_toList
  have hzb : b.data.toList.length = b.size := Array.length_toList
  refine Ev.step (fun _ => rfl) ?_
  simp only [reelkeeperlaw02_PathJoins.j0]
  refine Ev.if_neg (by simp) ?_
  rw [join_f (a := a) (b := b) (by omega), _root_.if_neg h3, may_f (s := a) (by omega), may_f (s := b) (by omega)]
  simp only [Option.bind_some]
  have hzz : ((a ++ (⟨#[47]⟩ : ByteArray)) ++ b).size = a.size + 1 + b.size := by rw [ByteArray.size_append, ByteArray.size_append]; rfl
  have hzz1 : (a ++ (⟨#[47]⟩ : ByteArray)).size = a.size + 1 := by rw [ByteArray.size_append]; rfl
  have e : ((a ++ (⟨#[47]⟩ : ByteArray)) ++ b).data.toList = a.data.toList ++ 47 :: b.data.toList := by rw [app_data, app_data]; simp
  cases hma : mayL a.data.toList
  · exact Ev.if_neg (by simp) (joins_j1 a b (by omega) (by omega) false (by rw [hma]; rfl))
  refine Ev.if_pos rfl ?_
  cases hmb : mayL b.data.toList
  · exact Ev.if_neg (by simp) (joins_j1 a b (by omega) (by omega) false (by rw [hmb]; simp))
  refine Ev.if_pos rfl (joins_j1 a b (by omega) (by omega) _ ?_)
  rw [hma, hmb, wrap_id (by omega) (by omega)]
  simp only [Bool.true_and]
  exact decide_eq_decide.2 (by omega)


end Go.Proofs.Ytachobpnpfkmjaa.X
