/- Names, plainly. -/
import Derived.Test.YtddjnicmpgbcgaaXK
import Derived.Test.YtddjnicmpgbcgaaXreelkeeperlaw05Few
import Derived.Test.YtddjnicmpgbcgaaXGlong
import Derived.Test.YtddjnicmpgbcgaaXGpath
import Derived.Test.YtddjnicmpgbcgaaYPath
import Derived.Test.YtddjnicmpgbcgaaYBytes
import Derived.Test.YtddjnicmpgbcgaaP02l
import Derived.Test.YtddjnicmpgbcgaaP05n
import Derived.Lib.IndexAny
namespace Go.Proofs.Ytddjnicmpgbcgaa.X
open Go.RowKit Go.Proofs.YtddjnicmpgbcgaaW.PrintWords Go.Proofs.YtddjnicmpgbcgaaW.PrintLast Go.Proofs.YtddjnicmpgbcgaaW.PrintMore
attribute [local go_sem] max2_int min2_int max_two min_two max_three min_three max_four min_four
set_option linter.unusedVariables false
set_option linter.unusedSimpArgs false

open Go.Proofs.YtddjnicmpgbcgaaY
theorem splitR_may {s : ByteArray} (h : (splitR s).2.2 = true) : mayL s.data.toList = true := by
  unfold splitR at h
  cases hm : mayL s.data.toList
  · rw [hm] at h; cases h
  · rfl

/-- What is split is whole with a slash between, or the name alone. -/
theorem splitR_yes {s : ByteArray} (h : (splitR s).2.2 = true) :
    (s.size ≤ 100 ∧ splitR s = (⟨#[]⟩, s, true)) ∨ (100 < s.size ∧ ∃ x y, splitR s = (x, y, true) ∧ s.data.toList = x.data.toList ++ 47 :: y.data.toList ∧ x.size ≤ 155 ∧ y.size ≤ 100) := by
  have hm := splitR_may h
  have hz : s.data.toList.length = s.size := Array.length_toList
  unfold splitR at h ⊢
  rw [hm] at h ⊢
  simp only [if_true] at h ⊢
  by_cases h1 : s.size ≤ 100
  · rw [_root_.if_pos h1] at h ⊢
    exact .inl ⟨h1, rfl⟩
  · rw [_root_.if_neg h1] at h ⊢
    refine .inr ⟨by omega, ?_⟩
    cases hf : slashFrom s.data.toList (s.size - 101) with
    | none => rw [hf] at h; cases h
    | some m =>
      rw [hf] at h
      obtain ⟨hge, hq⟩ := slashFrom_some hf
      have hlt := (List.getElem?_eq_some_iff.1 hq).1
      unfold splitAt at h ⊢
      by_cases h2 : m > 155
      · simp only [h2, if_true] at h; cases h
      · simp only [h2, if_false]
        refine ⟨_, _, rfl, ?_, ?_, ?_⟩
        · have e1 : (s.extract 0 m).data.toList = s.data.toList.take m := by rw [Lib.extract_data]; simp
          rw [e1, Lib.extract_to_end]
          exact list_at hq
        · rw [ByteArray.size_extract]; omega
        · rw [ByteArray.size_extract]; omega

theorem empty_iff (s : ByteArray) : s.data.toList = [] ↔ s = ⟨#[]⟩ := by
  constructor
  · intro h; exact ext_data h
  · rintro rfl; rfl

theorem splitR_no {s : ByteArray} (h : (splitR s).2.2 = false) : splitR s = noSplit ∧ (mayL s.data.toList = false ∨ 100 < s.size) := by
  unfold splitR at h ⊢
  cases hm : mayL s.data.toList
  · exact ⟨rfl, .inl rfl⟩
  · rw [hm] at h
    simp only [if_true] at h ⊢
    by_cases h1 : s.size ≤ 100
    · rw [_root_.if_pos h1] at h; cases h
    · rw [_root_.if_neg h1] at h ⊢
      refine ⟨?_, .inr (by omega)⟩
      cases hf : slashFrom s.data.toList (s.size - 101) with
      | none => rfl
      | some m =>
        rw [hf] at h
        unfold splitAt at h ⊢
        by_cases h2 : m > 155
        · simp only [h2, if_true]
        · simp only [h2, if_false] at h; cases h

theorem join_f {a b : ByteArray} (h : a.size + b.size + 1 ≤ 9223372036854775807) : path_Join.f a b = some (if a.data.toList = [] then b else (a ++ (⟨#[47]⟩ : ByteArray)) ++ b) := by
  unfold path_Join.f
  rw [Lib.toList_data]
  by_cases h1 : a.data.toList = []
  · rw [if_pos h1, if_pos h1]
  · rw [if_neg h1, if_neg h1, if_pos (by omega), if_pos (by rw [ByteArray.size_append]; show a.size + 1 + b.size ≤ _; omega)]

abbrev Nd := S23
def okN (n : Nd) : Bool := decide (n.f0.size ≤ 400) && (decide (n.f1.size ≤ 400) && decide (n.f7.size ≤ 5000))
theorem okN_iff {n : Nd} : okN n = true ↔ n.f0.size ≤ 400 ∧ n.f1.size ≤ 400 ∧ n.f7.size ≤ 5000 := by simp [okN]
theorem few5 (n : Nd) : reelkeeperlaw05_Few.f n.f0 n.f1 n.f2 n.f3 n.f4 n.f5 n.f6 n.f7 = some (okN n) := by
  unfold reelkeeperlaw05_Few.f okN
  by_cases h0 : n.f0.size ≤ 400
  · rw [if_pos (by omega)]
    by_cases h1 : n.f1.size ≤ 400
    · rw [if_pos (by omega)]
      simp only [h0, h1, decide_true, Bool.true_and]
      congr 1
      by_cases h7 : n.f7.size ≤ 5000
      · simp [h7]; omega
      · simp [h7]; omega
    · rw [if_neg (by omega)]; simp [h1]
  · rw [if_neg (by omega)]; simp [h0]

theorem shortB_size (s : ByteArray) : (shortB s).size ≤ 100 := by
  unfold shortB
  by_cases h : 100 < s.size
  · rw [if_pos h, ByteArray.size_extract]; omega
  · rw [if_neg h]; omega
theorem shortB_few {s : ByteArray} (h : ¬ 100 < s.size) : shortB s = s := by unfold shortB; rw [if_neg h]
theorem ne_nil {s : ByteArray} (h : 0 < s.size) : ¬ s.toList = ([] : List UInt8) := by
  rw [Lib.toList_data]
  intro e
  have : s.data.toList.length = s.size := Array.length_toList
  rw [e] at this
  simp at this
  omega
theorem names_facts {n : Nd} (h0 : n.f0.size ≤ 400) (h1 : n.f1.size ≤ 400) (hm : mayL n.f0.data.toList = true) :
    ∃ own pre tl nm lk, long_Needs.f n.f0 n.f1 n.f2 n.f3 n.f4 n.f5 n.f6 n.f7 = some (nm, lk) ∧ long_Names.f n.f0 n.f1 n.f2 n.f3 n.f4 n.f5 n.f6 n.f7 = some (own, pre, tl) ∧
      (own.toList == ([] : List UInt8)) = false ∧ own.size ≤ 100 ∧ pre.size ≤ 155 ∧ tl.size ≤ 100 ∧ (nm = false → ∃ j, path_Join.f pre own = some j ∧ (j.toList == n.f0.toList) = true) ∧ (lk = false → (tl.toList == n.f1.toList) = true) ∧ (nm = true → 100 < n.f0.size) ∧ lk = decide ((n.f1.size : Int) > 100) := by
  have hs1 := shortB_size n.f1
  have hs0 := shortB_size n.f0
  have hlink : (decide ((n.f1.size : Int) > 100)) = false → ((shortB n.f1).toList == n.f1.toList) = true := fun h => by rw [shortB_few (by simp at h; omega)]; simp
  have hne0 : 0 < n.f0.size := by
    rcases Nat.eq_zero_or_pos n.f0.size with e | e
    · exact absurd (List.eq_nil_of_length_eq_zero (show n.f0.data.toList.length = 0 by rw [Array.length_toList]; exact e)) (mayL_ne hm)
    · exact e
  unfold long_Names.f
  rw [needs_f n.f0 n.f1 n.f2 n.f3 n.f4 n.f5 n.f6 n.f7 (by omega), split_f n.f0 (by omega), hm]
  simp only [Option.bind_some, Bool.and_true]
  cases hs : (splitR n.f0).2.2 with
  | false =>
    obtain ⟨hno, hbig⟩ := splitR_no hs
    have hb : 100 < n.f0.size := by
      rcases hbig with h | h
      · rw [hm] at h; cases h
      · exact h
    have hown : (shortB n.f0).size = 100 := by unfold shortB; rw [if_pos hb, ByteArray.size_extract]; omega
    refine ⟨shortB n.f0, ⟨#[]⟩, shortB n.f1, true, _, rfl, by rw [hno]; rfl, beq_false_of_ne (ne_nil (by omega)), by omega, by show 0 ≤ _; omega, hs1, (fun h => by cases h), hlink, fun _ => hb, rfl⟩
  | true =>
    rcases splitR_yes hs with ⟨hle, he⟩ | ⟨hgt, x, y, he, hxy, hx, hy⟩
    · refine ⟨n.f0, ⟨#[]⟩, shortB n.f1, false, _, rfl, by rw [he]; rfl, beq_false_of_ne (ne_nil hne0), hle, by show 0 ≤ _; omega, hs1, (fun _ => ⟨_, join_f (by show 0 + n.f0.size + 1 ≤ _; omega), ?_⟩), hlink, (fun h => by cases h), rfl⟩
      rw [if_pos rfl]; simp
    · have hmm : mayL x.data.toList = true ∧ mayL y.data.toList = true := by
        rw [hxy, mayL_append, Bool.and_eq_true, Bool.and_eq_true] at hm
        exact hm.1
      have hy0 : 0 < y.size := by
        rcases Nat.eq_zero_or_pos y.size with e | e
        · exact absurd (List.eq_nil_of_length_eq_zero (show y.data.toList.length = 0 by rw [Array.length_toList]; exact e)) (mayL_ne hmm.2)
        · exact e
      refine ⟨y, x, shortB n.f1, false, _, rfl, by rw [he]; rfl, beq_false_of_ne (ne_nil hy0), hy, hx, hs1, (fun _ => ⟨_, join_f (by omega), ?_⟩), hlink, (fun h => by cases h), rfl⟩
      rw [if_neg (mayL_ne hmm.1), beq_iff_eq, Lib.toList_data, Lib.toList_data, app_data, app_data, hxy]
      simp

end Go.Proofs.Ytddjnicmpgbcgaa.X
