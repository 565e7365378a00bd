/- Those under a path, plainly. -/
import Derived.Test.YtddjnicmpgbcgaaXK
import Derived.Test.YtddjnicmpgbcgaaXGtree
import Derived.Test.YtddjnicmpgbcgaaXGtree
import Derived.Test.YtddjnicmpgbcgaaXGtree
import Derived.Test.YtddjnicmpgbcgaaXGtree
import Derived.Test.YtddjnicmpgbcgaaXGpath
import Derived.Test.YtddjnicmpgbcgaaYPath
import Derived.Test.YtddjnicmpgbcgaaYBytes
import Derived.Test.YtddjnicmpgbcgaaP02m
import Derived.Test.YtddjnicmpgbcgaaP06a
import Derived.Test.YtddjnicmpgbcgaaP06b
namespace Go.Proofs.Ytddjnicmpgbcgaa.X
open Go.RowKit Go.Proofs.YtddjnicmpgbcgaaW.PrintWords Go.Proofs.YtddjnicmpgbcgaaW.PrintLast Go.Proofs.YtddjnicmpgbcgaaW.PrintMore
attribute [local go_sem] max2_int min2_int max_two min_two max_three min_three max_four min_four
set_option linter.unusedVariables false
set_option linter.unusedSimpArgs false

open Go.Proofs.YtddjnicmpgbcgaaY
def bel (x : Nd) (p : ByteArray) : Bool := belowL x.f0.data.toList p.data.toList
def under (l : List Nd) (p : ByteArray) : List Nd := l.filter fun x => bel x p
theorem bel_f {x : Nd} (h : okN x = true) {p : ByteArray} (hp : p.size ≤ 400) : path_Below.f x.f0 p = some (bel x p) := below_f (by have := (okN_iff.1 h).1; omega) (by omega)
theorem under_f {l : List Nd} (hl : l.length ≤ 30) (h : ∀ n ∈ l, okN n = true) {p : ByteArray} (hp : p.size ≤ 400) : tree_Under.f l p = some (under l p) := by
  have hall : (l.all fun x => (path_Below.f x.f0 p).isSome) = true := by
    rw [List.all_eq_true]
    intro x hx
    rw [bel_f (h x hx) hp]
    rfl
  have hfil : (l.filter fun x => (path_Below.f x.f0 p).getD false) = l.filter fun x => bel x p := by
    refine List.filter_congr fun x hx => ?_
    rw [bel_f (h x hx) hp]
    rfl
  unfold tree_Under.f under
  rw [if_pos ⟨by omega, hall⟩, hfil]
theorem less_prefix (c : UInt8) (r : List UInt8) : ∀ a : List UInt8, Op.bytesLess a (a ++ c :: r) = true
  | [] => rfl
  | a :: x => by simp [Op.bytesLess, less_prefix c r x]
theorem bel_less {x y : Nd} (h : bel x y.f0 = true) : Op.bytesLess y.f0.toList x.f0.toList = true := by
  obtain ⟨r, hr⟩ := below_prefix h
  rw [Lib.toList_data, Lib.toList_data, hr]
  exact less_prefix _ _ _
theorem last_slash : ∀ r : List UInt8, (47 : UInt8) ∈ r → ∃ a b, r = a ++ 47 :: b ∧ (47 : UInt8) ∉ b
  | [], h => by simp at h
  | c :: r, h => by
    by_cases hr : (47 : UInt8) ∈ r
    · obtain ⟨a, b, e, hb⟩ := last_slash r hr
      exact ⟨c :: a, b, by rw [e]; rfl, hb⟩
    · rcases List.mem_cons.1 h with e | h2
      · exact ⟨[], r, by rw [e]; rfl, hr⟩
      · exact absurd h2 hr
theorem cut_last {q r u y : List UInt8} (h : q ++ 47 :: r = u ++ 47 :: y) (hy : (47 : UInt8) ∉ y) : u = q ∨ ∃ r', u = q ++ 47 :: r' := by
  by_cases hr : (47 : UInt8) ∈ r
  · obtain ⟨a, b, e, hb⟩ := last_slash r hr
    refine .inr ⟨a, ?_⟩
    rw [e] at h
    have h2 : (q ++ 47 :: a) ++ 47 :: b = u ++ 47 :: y := by rw [← h]; simp
    exact (tail_unique h2 hb hy).symm
  · exact .inl (tail_unique h hr hy).symm
theorem seen_is {p : List Nd} {s : ByteArray} {k : Int} (hk : k ≠ 0) (h : seen p s = k) : ∃ x, x ∈ p ∧ x.f0.toList = s.toList ∧ x.f2 = k ∧ (p.find? fun x => x.f0.toList == s.toList) = some x := by
  unfold seen at h
  cases hf : p.find? (fun x => x.f0.toList == s.toList) with
  | none => rw [hf] at h; exact absurd h.symm hk
  | some x =>
    rw [hf] at h
    exact ⟨x, List.mem_of_find?_eq_some hf, by simpa using List.find?_some hf, h, rfl⟩
theorem step_dir {pre : List Nd} {last : ByteArray} {n : Nd} (h : step pre last n = true) (h2 : (parentOf n.f0).2 = true) : seen pre (parentOf n.f0).1 = 53 := by
  unfold step at h
  simp only [Bool.and_eq_true] at h
  have := h.2.2.1
  rw [h2, Bool.true_and, Bool.not_not] at this
  simpa using this
theorem step_file {pre : List Nd} {last : ByteArray} {n : Nd} (h : step pre last n = true) (h2 : n.f2 = 49) : seen pre n.f1 = 48 := by
  unfold step at h
  simp only [Bool.and_eq_true] at h
  have := h.2.2.2
  rw [h2] at this
  simpa using this
theorem mem_take_at {l : List Nd} {k : Nat} {x : Nd} (h : x ∈ l.take k) : ∃ j, ∃ hj : j < l.length, j < k ∧ l[j] = x := by
  obtain ⟨j, hj, e⟩ := List.mem_take_iff_getElem.1 h
  exact ⟨j, by omega, by omega, e⟩
theorem dir_up {l : List Nd} (hok : ∀ n ∈ l, okN n = true) (hT : mayT [] ⟨#[]⟩ l = true) : ∀ (k : Nat) (hk : k < l.length) (i : Nat) (hi : i < l.length), bel l[k] l[i].f0 = true → l[i].f2 = 53 := by
  intro k
  induction k using Nat.strongRecOn with
  | _ k ih =>
    intro hk i hi hb
    obtain ⟨last, hs⟩ := step_at hT hk
    have hokk := hok _ (List.getElem_mem hk)
    have hsz : l[k].f0.size ≤ 9223372036854775807 := by have := (okN_iff.1 hokk).1; omega
    obtain ⟨r, hr⟩ := below_prefix hb
    obtain ⟨hm1, hm2⟩ := below_may hb
    rcases (parentOf_ev hsz).2 with ⟨_, hno⟩ | ⟨hp2, _, y, hy, hny⟩
    · exact absurd (by rw [hr]; simp) (hno hm1)
    · have hsd := step_dir hs hp2
      obtain ⟨x, hx, hxe, hx2, _⟩ := seen_is (by decide) hsd
      obtain ⟨j, hj, hjk, rfl⟩ := mem_take_at hx
      rw [Lib.toList_data, Lib.toList_data] at hxe
      rcases cut_last (hr.symm.trans hy) hny with e | ⟨r', e⟩
      · have hij : j = i := same_at hT hj hi (by rw [Lib.toList_data, Lib.toList_data, hxe, e])
        subst hij
        exact hx2
      · refine ih j hjk hj i hi ?_
        unfold bel
        rw [hxe]
        refine below_mk ?_ hm2 e
        rw [hy, mayL_append] at hm1
        simp only [Bool.and_eq_true] at hm1
        exact hm1.1.1

end Go.Proofs.Ytddjnicmpgbcgaa.X
