/- What the reference of layer 6 computes, plainly. -/
import Derived.Test.YtddjnicmpgbcgaaXK
import Derived.Test.YtddjnicmpgbcgaaXGreelkeeperref06
import Derived.Test.YtddjnicmpgbcgaaXGreelkeeperref06
import Derived.Test.YtddjnicmpgbcgaaXGreelkeeperref06
import Derived.Test.YtddjnicmpgbcgaaXGreelkeeperref062
import Derived.Test.YtddjnicmpgbcgaaXGreelkeeperref062
import Derived.Test.YtddjnicmpgbcgaaXGreelkeeperref062
import Derived.Test.YtddjnicmpgbcgaaXreelkeeperref05Text
import Derived.Test.YtddjnicmpgbcgaaXGtree
import Derived.Test.YtddjnicmpgbcgaaXGtree
import Derived.Test.YtddjnicmpgbcgaaXGtree
import Derived.Test.YtddjnicmpgbcgaaXGtree
import Derived.Test.YtddjnicmpgbcgaaXGtree
import Derived.Test.YtddjnicmpgbcgaaXGslices
import Derived.Test.YtddjnicmpgbcgaaYPath
import Derived.Test.YtddjnicmpgbcgaaYBytes
import Derived.Test.YtddjnicmpgbcgaaP02m
import Derived.Test.YtddjnicmpgbcgaaP02r
import Derived.Test.YtddjnicmpgbcgaaP06a
import Derived.Test.YtddjnicmpgbcgaaP06b
import Derived.Test.YtddjnicmpgbcgaaP06c
namespace Go.Proofs.Ytddjnicmpgbcgaa.X
open Go.RowKit Go.Proofs.YtddjnicmpgbcgaaW.PrintWords Go.Proofs.YtddjnicmpgbcgaaW.PrintLast Go.Proofs.YtddjnicmpgbcgaaW.PrintMore
attribute [local go_sem] max2_int min2_int max_two min_two max_three min_three max_four min_four
set_option linter.unusedVariables false
set_option linter.unusedSimpArgs false

open Go.Proofs.YtddjnicmpgbcgaaY
/-! ### texts -/
def textB (s : ByteArray) : Bool := decide (1 ≤ s.size) && (decide (s.size ≤ 300) && !s.data.toList.contains 0)
theorem long_text (s : ByteArray) : long_Text.f s = some (textB s) := by
  unfold long_Text.f textB strings_IndexByte.f
  have hs : s.data.toList.length = s.size := Array.length_toList
  by_cases h0 : s.toList = ([] : List UInt8)
  · rw [if_pos h0]
    rw [Lib.toList_data] at h0
    rw [h0] at hs
    rw [decide_eq_false (by simp at hs; omega)]
    rfl
  · rw [if_neg h0]
    rw [Lib.toList_data] at h0
    have h1 : 1 ≤ s.size := by
      rcases Nat.eq_zero_or_pos s.size with e | e
      · rw [e] at hs; exact absurd (List.eq_nil_of_length_eq_zero hs) h0
      · exact e
    rw [decide_eq_true h1, Bool.true_and]
    by_cases h2 : (s.size : Int) ≤ 300
    · rw [if_pos h2, decide_eq_true (show s.size ≤ 300 by omega), Bool.true_and]
      simp only [Option.bind_some]
      congr 1
      rw [Lib.contains_iff_indexByte]
      have e0 : (0 : Int).toNat.toUInt8 = (0 : UInt8) := rfl
      rw [e0]
      by_cases h : Lib.indexByte s.data.toList 0 < 0
      · simp [h]
      · simp [h]; omega
    · rw [if_neg h2, decide_eq_false (show ¬ s.size ≤ 300 by omega), Bool.false_and]
theorem ref_text (s : ByteArray) (hs : s.size ≤ 400) : Ev (fun k => reelkeeperref05_Text.f k s) (textB s) := by
  have hln : s.data.toList.length = s.size := Array.length_toList
  have key : ∀ (d i : Nat), i + d = s.size → (0 : UInt8) ∉ s.data.toList.take i → Ev (fun k => reelkeeperref05_Text.l0 k s (i : Int)) (textB s) := by
    intro d
    induction d with
    | zero =>
      intro i hi hn
      rw [List.take_of_length_le (by omega)] at hn
      have hc : s.data.toList.contains 0 = false := by
        cases h : s.data.toList.contains 0 with
        | false => rfl
        | true => exact absurd (List.contains_iff_mem.1 h) hn
      refine Ev.step (fun _ => rfl) ?_
      simp only [reelkeeperref05_Text.l0]
      refine Ev.if_neg (by omega) ?_
      unfold textB
      rw [hc]
      by_cases h1 : 1 ≤ s.size
      · refine Ev.if_pos (by omega) ?_
        rw [decide_eq_true h1, Bool.true_and, Bool.not_false, Bool.and_true]
        have : decide ((s.size : Int) ≤ 300) = decide (s.size ≤ 300) := by congr 1; exact propext ⟨fun _ => by omega, fun _ => by omega⟩
        rw [this]
        exact Ev.now _
      · refine Ev.if_neg (by omega) ?_
        rw [decide_eq_false h1, Bool.false_and]
        exact Ev.now _
    | succ d ih =>
      intro i hi hn
      have hlt : i < s.size := by omega
      have hll : i < s.data.toList.length := by omega
      refine Ev.step (fun _ => rfl) ?_
      simp only [reelkeeperref05_Text.l0]
      refine Ev.if_pos (by omega) ?_
      refine Ev.if_pos (by omega) ?_
      by_cases h0 : bt s (i : Int) = 0
      · refine Ev.if_pos h0 ?_
        have hm : (0 : UInt8) ∈ s.data.toList := List.mem_of_getElem? ((bt_is hlt 0).1 h0)
        have : textB s = false := by
          unfold textB
          rw [List.contains_iff_mem.2 hm]
          simp
        rw [this]
        exact Ev.now _
      · refine Ev.if_neg h0 ?_
        have hw : wrap64 ((i : Int) + 1) = ((i + 1 : Nat) : Int) := by rw [wrap_id (by omega) (by omega)]; omega
        rw [hw]
        refine ih (i + 1) (by omega) ?_
        rw [List.take_succ_eq_append_getElem hll]
        simp only [List.mem_append, List.mem_singleton, not_or]
        exact ⟨hn, fun e => h0 ((bt_is hlt 0).2 (by rw [List.getElem?_eq_getElem hll, ← e]))⟩
  exact key s.size 0 (by omega) (by simp)
/-! ### find, has -/
theorem find_loop (l : List Nd) (hl : l.length ≤ 30) (p : ByteArray) : ∀ (d i : Nat), i + d = l.length → (l.take i).all (fun x => !(x.f0.toList == p.toList)) = true →
    Ev (fun k => reelkeeperref06_Find.l0 k l p (i : Int)) (idxOf (fun x : Nd => x.f0.toList == p.toList) l) := by
  intro d
  induction d with
  | zero =>
    intro i hi ha
    rw [List.take_of_length_le (by omega)] at ha
    refine Ev.step (fun _ => rfl) ?_
    simp only [reelkeeperref06_Find.l0]
    refine Ev.if_neg (by omega) ?_
    rw [idxOf_none ha]
    exact Ev.now _
  | succ d ih =>
    intro i hi ha
    have hlt : i < l.length := by omega
    refine Ev.step (fun _ => rfl) ?_
    simp only [reelkeeperref06_Find.l0]
    refine Ev.if_pos (by omega) ?_
    refine Ev.if_pos (by omega) ?_
    simp only [rd_at hlt]
    by_cases he : l[i].f0.toList = p.toList
    · refine Ev.if_pos he ?_
      rw [idxOf_at hlt ha (by simpa using he)]
      exact Ev.now _
    · refine Ev.if_neg he ?_
      have hw : wrap64 ((i : Int) + 1) = ((i + 1 : Nat) : Int) := by rw [wrap_id (by omega) (by omega)]; omega
      rw [hw]
      refine ih (i + 1) (by omega) ?_
      rw [List.take_succ_eq_append_getElem hlt, List.all_append, ha]
      simpa using he
theorem ref_find (l : List Nd) (hl : l.length ≤ 30) (p : ByteArray) : Ev (fun k => reelkeeperref06_Find.f k l p) (idxOf (fun x : Nd => x.f0.toList == p.toList) l) := find_loop l hl p l.length 0 (by omega) (by simp)
theorem ref_has (l : List Nd) (hl : l.length ≤ 30) (p : ByteArray) (c : Int) (hc : c ≠ 0) : Ev (fun k => reelkeeperref06_has.f k l p c) (seen l p == c) := by
  unfold reelkeeperref06_has.f
  refine Ev.bind (ref_find l hl p) ?_
  unfold idxOf seen
  cases h : l.findIdx? (fun x : Nd => x.f0.toList == p.toList) with
  | none =>
    have hf : l.find? (fun x : Nd => x.f0.toList == p.toList) = none := by
      rw [List.findIdx?_eq_none_iff] at h
      rw [List.find?_eq_none]
      intro x hx
      simpa using h x hx
    rw [hf]
    refine Ev.if_neg (by decide) ?_
    have : ((Option.map (fun x : Nd => x.f2) none).getD 0 == c) = false := beq_eq_false_iff_ne.2 (fun e => hc e.symm)
    rw [this]
    exact Ev.now _
  | some q =>
    obtain ⟨hq, hp, hb⟩ := List.findIdx?_eq_some_iff_getElem.1 h
    have hf : l.find? (fun x : Nd => x.f0.toList == p.toList) = some l[q] := by
      rw [List.find?_eq_some_iff_getElem]
      exact ⟨hp, q, hq, rfl, fun j hj => by simpa using hb j hj⟩
    rw [hf]
    simp only
    refine Ev.if_pos (by omega) ?_
    refine Ev.if_pos (by omega) ?_
    refine Ev.if_pos (by omega) ?_
    rw [rd_at hq]
    exact Ev.now _
/-! ### under -/
theorem ref_under_loop (l : List Nd) (hl : l.length ≤ 30) (hok : ∀ n ∈ l, okN n = true) {p : ByteArray} (hp : p.size ≤ 400) : ∀ (d i : Nat), i + d = l.length →
    Ev (fun k => reelkeeperref06_Under.l0 k l p (under (l.take i) p) (i : Int)) (under l p) := by
  intro d
  induction d with
  | zero =>
    intro i hi
    rw [List.take_of_length_le (by omega)]
    refine Ev.step (fun _ => rfl) ?_
    simp only [reelkeeperref06_Under.l0]
    exact Ev.if_neg (by omega) (Ev.now _)
  | succ d ih =>
    intro i hi
    have hlt : i < l.length := by omega
    have hsz : l[i].f0.size ≤ 400 := (okN_iff.1 (hok _ (List.getElem_mem hlt))).1
    have hw : wrap64 ((i : Int) + 1) = ((i + 1 : Nat) : Int) := by rw [wrap_id (by omega) (by omega)]; omega
    have hstep : under (l.take (i + 1)) p = if bel l[i] p = true then under (l.take i) p ++ [l[i]] else under (l.take i) p := by
      unfold under
      rw [List.take_succ_eq_append_getElem hlt, List.filter_append]
      cases hb0 : bel l[i] p <;> simp [List.filter_cons, hb0]
    have ih2 := ih (i + 1) (by omega)
    rw [hstep] at ih2
    refine Ev.step (fun _ => rfl) ?_
    simp only [reelkeeperref06_Under.l0]
    refine Ev.if_pos (by omega) ?_
    refine Ev.if_pos (by omega) ?_
    simp only [rd_at hlt]
    refine Ev.bind (ref_below (by omega) (by omega)) ?_
    rw [hw]
    cases hb : belowL l[i].f0.data.toList p.data.toList with
    | true =>
      refine Ev.if_pos rfl ?_
      refine Ev.if_pos ?_ ?_
      · have := List.length_filter_le (fun x => bel x p) (l.take i)
        rw [List.length_take] at this
        unfold under
        omega
      · rw [if_pos (show bel l[i] p = true from hb)] at ih2
        exact ih2
    | false =>
      refine Ev.if_neg (by decide) ?_
      rw [if_neg (by show ¬ bel l[i] p = true; unfold bel; rw [hb]; decide)] at ih2
      exact ih2
theorem ref_under (l : List Nd) (hl : l.length ≤ 30) (hok : ∀ n ∈ l, okN n = true) {p : ByteArray} (hp : p.size ≤ 400) : Ev (fun k => reelkeeperref06_Under.f k l p) (under l p) := ref_under_loop l hl hok hp l.length 0 (by omega)
/-! ### same -/
def neB (x y : Nd) : Bool := !(x.f0.toList == y.f0.toList) || (!(x.f1.toList == y.f1.toList) || (!(x.f2 == y.f2) || (!(x.f3 == y.f3) || (!(x.f4 == y.f4) || (!(x.f5 == y.f5) || (!(x.f6 == y.f6) || !(x.f7.toList == y.f7.toList)))))))
def eqFrom (a b : List Nd) : Nat → Nat → Bool
  | 0, _ => true
  | d + 1, i => if neB (rd_T23 a (i : Int)) (rd_T23 b (i : Int)) = true then false else eqFrom a b d (i + 1)
def sameB (a b : List Nd) : Bool := if a.length = b.length then eqFrom a b a.length 0 else false
theorem ref_same_loop (a b : List Nd) (hl : a.length ≤ 30) (hb : a.length = b.length) : ∀ (d i : Nat), i + d = a.length → Ev (fun k => reelkeeperref06_Same.l0 k a b (i : Int)) (eqFrom a b d i) := by
  intro d
  induction d with
  | zero =>
    intro i hi
    refine Ev.step (fun _ => rfl) ?_
    simp only [reelkeeperref06_Same.l0]
    exact Ev.if_neg (by omega) (Ev.now _)
  | succ d ih =>
    intro i hi
    have hw : wrap64 ((i : Int) + 1) = ((i + 1 : Nat) : Int) := by rw [wrap_id (by omega) (by omega)]; omega
    refine Ev.step (fun _ => rfl) ?_
    simp only [reelkeeperref06_Same.l0]
    refine Ev.if_pos (by omega) ?_
    refine Ev.if_pos (by omega) ?_
    refine Ev.if_pos (by omega) ?_
    rw [hw]
    unfold eqFrom
    cases hn : neB (rd_T23 a (i : Int)) (rd_T23 b (i : Int)) with
    | true => exact Ev.if_pos hn (Ev.now _)
    | false => exact Ev.if_neg (by show ¬ neB _ _ = true; rw [hn]; decide) (ih (i + 1) (by omega))
theorem ref_same (a b : List Nd) (hl : a.length ≤ 30) : Ev (fun k => reelkeeperref06_Same.f k a b) (sameB a b) := by
  unfold reelkeeperref06_Same.f sameB
  by_cases h : a.length = b.length
  · rw [if_pos h]
    exact Ev.if_pos (by omega) (ref_same_loop a b hl h a.length 0 (by omega))
  · rw [if_neg h]
    exact Ev.if_neg (by omega) (Ev.now _)
theorem same_from (a b : List Nd) (hl : a.length ≤ 30) (hb : a.length = b.length) : ∀ (d i : Nat), i + d = a.length → Ev (fun k => slices_Equal_Node.l0 k a b (a.length : Int) (i : Int)) (eqFrom a b d i) := by
  intro d
  induction d with
  | zero =>
    intro i hi
    refine Ev.step (fun _ => rfl) ?_
    simp only [slices_Equal_Node.l0]
    exact Ev.if_neg (by omega) (Ev.now _)
  | succ d ih =>
    intro i hi
    have hw : wrap64 ((i : Int) + 1) = ((i + 1 : Nat) : Int) := by rw [wrap_id (by omega) (by omega)]; omega
    refine Ev.step (fun _ => rfl) ?_
    simp only [slices_Equal_Node.l0]
    refine Ev.if_pos (by omega) ?_
    refine Ev.if_pos (by omega) ?_
    refine Ev.if_pos (by omega) ?_
    refine Ev.if_pos (by omega) ?_
    rw [hw]
    unfold eqFrom
    cases hn : neB (rd_T23 a (i : Int)) (rd_T23 b (i : Int)) with
    | true => exact Ev.if_pos hn (Ev.now _)
    | false => exact Ev.if_neg (by show ¬ neB _ _ = true; rw [hn]; decide) (ih (i + 1) (by omega))
theorem same_ev (a b : List Nd) (hl : a.length ≤ 30) : Ev (fun k => tree_Same.f k a b) (sameB a b) := by
  unfold tree_Same.f
  refine Ev.bind (a := sameB a b) ?_ (Ev.now _)
  unfold slices_Equal_Node.f sameB
  by_cases h : a.length = b.length
  · rw [if_pos h]
    exact Ev.if_pos (by omega) (same_from a b hl h a.length 0 (by omega))
  · rw [if_neg h]
    exact Ev.if_neg (by omega) (Ev.now _)

end Go.Proofs.Ytddjnicmpgbcgaa.X
