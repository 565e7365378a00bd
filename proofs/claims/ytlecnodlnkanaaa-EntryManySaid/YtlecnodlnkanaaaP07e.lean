/- Entries, plainly: what the functions of package entry tell. -/
import Derived.Test.YtlecnodlnkanaaaXK
import Derived.Test.YtlecnodlnkanaaaXentryHead
import Derived.Test.YtlecnodlnkanaaaXentryPut
import Derived.Test.YtlecnodlnkanaaaXentryentryhead
import Derived.Test.YtlecnodlnkanaaaXGblock
import Derived.Test.YtlecnodlnkanaaaXGblock
import Derived.Test.YtlecnodlnkanaaaYPath
import Derived.Test.YtlecnodlnkanaaaYBytes
import Derived.Test.YtlecnodlnkanaaaYCopy
import Derived.Test.YtlecnodlnkanaaaYConv
import Derived.Test.YtlecnodlnkanaaaPGA
import Derived.Test.YtlecnodlnkanaaaPGA
import Derived.Test.YtlecnodlnkanaaaPGA
import Derived.Test.YtlecnodlnkanaaaPGA
import Derived.Test.YtlecnodlnkanaaaPGA
import Derived.Test.YtlecnodlnkanaaaPGA
import Derived.Test.YtlecnodlnkanaaaPGA
import Derived.Test.YtlecnodlnkanaaaPGA
import Derived.Test.YtlecnodlnkanaaaPGA
import Derived.Test.YtlecnodlnkanaaaPGA
import Derived.Test.YtlecnodlnkanaaaPGA
import Derived.Test.YtlecnodlnkanaaaPGA
import Derived.Test.YtlecnodlnkanaaaP07a
import Derived.Test.YtlecnodlnkanaaaP07b
import Derived.Test.YtlecnodlnkanaaaP07c
import Derived.Lib.IndexAny
namespace Go.Proofs.Ytlecnodlnkanaaa.X
open Go.RowKit Go.Proofs.YtlecnodlnkanaaaW.PrintWords Go.Proofs.YtlecnodlnkanaaaW.PrintLast Go.Proofs.YtlecnodlnkanaaaW.PrintMore
attribute [local go_sem] max2_int min2_int max_two min_two max_three min_three max_four min_four
set_option linter.unusedVariables false
set_option linter.unusedSimpArgs false

open Go.Proofs.YtlecnodlnkanaaaY
theorem entryHead_yes {n : Nd} (ho : oneB n = true) : entry_Head.f n.f0 n.f1 n.f2 n.f3 n.f4 n.f5 n.f6 n.f7 = some ((entryHd n).f0, (entryHd n).f1, (entryHd n).f2, (entryHd n).f3, (entryHd n).f4, (entryHd n).f5, (entryHd n).f6, (entryHd n).f7, (entryHd n).f8, (entryHd n).f9, (entryHd n).f10, true) := by
  have h := oneB_facts ho
  have hz := mayL_pos h.path
  have hl := h.link
  unfold entry_Head.f entry_entry_head.f
  rw [one_b n (by omega) (by omega), ho, names_f n.f0 n.f1 n.f2 n.f3 n.f4 n.f5 n.f6 n.f7 (by omega)]
  rfl
theorem entryHead_no {n : Nd} (h0 : n.f0.size ≤ 10000) (h1 : n.f1.size ≤ 10000) (ho : oneB n = false) : entry_Head.f n.f0 n.f1 n.f2 n.f3 n.f4 n.f5 n.f6 n.f7 = some ((⟨#[]⟩ : ByteArray), (⟨#[]⟩ : ByteArray), (⟨#[]⟩ : ByteArray), 0, 0, 0, 0, 0, 0, 0, 0, false) := by
  unfold entry_Head.f
  rw [one_b n (by omega) (by omega), ho]
  rfl
theorem headPut_yes {h : Hd} (ho : hdOk h = true) (hi : hdIn h) : head_Put.f h.f0 h.f1 h.f2 h.f3 h.f4 h.f5 h.f6 h.f7 h.f8 h.f9 h.f10 = some (hdBlk h, true) := by
  unfold head_Put.f
  have hi' : hdIn ⟨h.f0, h.f1, h.f2, h.f3, h.f4, h.f5, h.f6, h.f7, h.f8, h.f9, h.f10⟩ := hi
  rw [if_pos hi']
  unfold headPut
  have ho' : hdOk ⟨h.f0, h.f1, h.f2, h.f3, h.f4, h.f5, h.f6, h.f7, h.f8, h.f9, h.f10⟩ = true := ho
  rw [if_pos ho']
theorem cut_f {s : ByteArray} (h : s.size ≤ 1000000) : block_Cut.f s = some (cutL s) := by unfold block_Cut.f; rw [if_pos h]
theorem cutL_length (s : ByteArray) : (cutL s).length = manyB s.size := by rw [cutL_eq, (cutB_length _ _ rfl).1, bytesOf_length]
theorem aheadB_len {a0 a1 : ByteArray} (h0 : a0.size ≤ 10000) (h1 : a1.size ≤ 10000) : (aheadB a0 a1).length ≤ 2000 := by
  have g1 := longB_length (kind := 75) h1
  have g0 := longB_length (kind := 76) h0
  unfold aheadB
  have e : ([] : List (List Int)).length = 0 := rfl
  rw [List.length_append]
  split <;> split <;> (try rw [e]) <;> omega
theorem entryPut_yes {n : Nd} (ho : oneB n = true) : entry_Put.f n.f0 n.f1 n.f2 n.f3 n.f4 n.f5 n.f6 n.f7 = some (entryB n, true) := by
  have h := oneB_facts ho
  have hz := mayL_pos h.path
  have hl := h.link
  have hd := h.data
  unfold entry_Put.f
  rw [entryHead_yes ho]
  simp only [Option.bind_some]
  rw [if_pos trivial, headPut_yes (entryHd_ok h) (entryHd_in h), ahead_f n.f0 n.f1 n.f2 n.f3 n.f4 n.f5 n.f6 n.f7 (by omega) (by omega), cut_f (by omega)]
  simp only [Option.bind_some]
  rw [if_pos]
  · rfl
  · have := aheadB_len (a0 := n.f0) (a1 := n.f1) (by omega) (by omega)
    rw [cutL_length]
    unfold manyB
    omega
theorem entryPut_no {n : Nd} (h0 : n.f0.size ≤ 10000) (h1 : n.f1.size ≤ 10000) (ho : oneB n = false) : entry_Put.f n.f0 n.f1 n.f2 n.f3 n.f4 n.f5 n.f6 n.f7 = some ([], false) := by
  unfold entry_Put.f
  rw [entryHead_no h0 h1 ho]
  rfl
/-- What Put tells. -/
def entryP (n : Nd) : List (List Int) × Bool := if oneB n = true then (entryB n, true) else ([], false)
theorem entryPut_f {n : Nd} (h0 : n.f0.size ≤ 10000) (h1 : n.f1.size ≤ 10000) : entry_Put.f n.f0 n.f1 n.f2 n.f3 n.f4 n.f5 n.f6 n.f7 = some (entryP n) := by
  unfold entryP
  cases ho : oneB n with
  | true => rw [entryPut_yes ho]; rfl
  | false => rw [entryPut_no h0 h1 ho]; rfl
theorem many_f {n : Nat} (h : n ≤ 4398046511104) : block_Many.f (n : Int) = some (manyB n : Int) := by
  unfold block_Many.f manyB
  by_cases c : (n : Int) < 1
  · rw [if_pos c]
    have : n = 0 := by omega
    subst this
    rfl
  · rw [if_neg c]
    have w1 : wrap64 ((n : Int) - 1) = ((n - 1 : Nat) : Int) := by rw [wrap_id (by omega) (by omega)]; omega
    rw [w1]
    have e2 : Int.tdiv ((n - 1 : Nat) : Int) 512 = (((n - 1) / 512 : Nat) : Int) := rfl
    rw [e2, wrap_id (x := (((n - 1) / 512 : Nat) : Int)) (by omega) (by omega), wrap_id (by omega) (by omega)]
    congr 1
    omega
theorem entryB_length {n : Nd} (h : OneFacts n) : (entryB n).length = (aheadB n.f0 n.f1).length + 1 + manyB n.f7.size := by
  unfold entryB
  rw [List.length_append, List.length_cons, cutL_length]
  omega
theorem aheadB_count {n : Nd} (h : OneFacts n) : (aheadB n.f0 n.f1).length = (if 100 < n.f1.size then 2 else 0) + (if (needsB n.f0 n.f1).1 = true then 2 else 0) := by
  have hz := mayL_pos h.path
  have hl := h.link
  rw [aheadB_one h, List.length_append]
  have e : (needsB n.f0 n.f1).2 = decide (100 < n.f1.size) := by
    show decide ((n.f1.size : Int) > 100) = _
    exact decide_eq_decide.2 ⟨fun _ => by omega, fun _ => by omega⟩
  rw [e]
  by_cases c1 : 100 < n.f1.size
  · rw [if_pos c1, if_pos (decide_eq_true c1), longL_two hl.2]
    by_cases c2 : (needsB n.f0 n.f1).1 = true
    · rw [if_pos c2, if_pos c2, longL_two hz.2]
    · rw [if_neg c2, if_neg c2]; rfl
  · rw [if_neg c1, if_neg (by rw [decide_eq_false c1]; decide)]
    by_cases c2 : (needsB n.f0 n.f1).1 = true
    · rw [if_pos c2, if_pos c2, longL_two hz.2]; rfl
    · rw [if_neg c2, if_neg c2]; rfl
theorem needs_big {n : Nd} (h : OneFacts n) (c : (needsB n.f0 n.f1).1 = true) : 100 < n.f0.size := by
  unfold needsB at c
  simp only [Bool.and_eq_true, Bool.not_eq_true'] at c
  rcases (splitR_no c.1).2 with e | e
  · rw [h.path] at e; cases e
  · exact e

end Go.Proofs.Ytlecnodlnkanaaa.X
