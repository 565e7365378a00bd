/- What a node needs, plainly. -/
import Derived.Test.YtddjnicmpgbcgaaXK
import Derived.Test.YtddjnicmpgbcgaaXGlong
import Derived.Test.YtddjnicmpgbcgaaXGpath
import Derived.Test.YtddjnicmpgbcgaaYPath
import Derived.Test.YtddjnicmpgbcgaaYBytes
import Derived.Test.YtddjnicmpgbcgaaPG02
import Derived.Test.YtddjnicmpgbcgaaXreelkeeperlaw05Few
import Derived.Test.YtddjnicmpgbcgaaXGreelkeeperref05
import Derived.Test.YtddjnicmpgbcgaaPG03
import Derived.Test.YtddjnicmpgbcgaaPG04
import Derived.Lib.IndexAny
namespace Go.Proofs.Ytddjnicmpgbcgaa.X
open Go.RowKit Go.Proofs.YtddjnicmpgbcgaaW.PrintWords Go.Proofs.YtddjnicmpgbcgaaW.PrintLast Go.Proofs.YtddjnicmpgbcgaaW.PrintMore
attribute [local go_sem] max2_int min2_int max_two min_two max_three min_three max_four min_four
set_option linter.unusedVariables false
set_option linter.unusedSimpArgs false

open Go.Proofs.YtddjnicmpgbcgaaY
theorem needs_f (a0 a1 : ByteArray) (a2 a3 a4 a5 a6 : Int) (a7 : ByteArray) (h : a0.size ≤ 9223372036854775807) : long_Needs.f a0 a1 a2 a3 a4 a5 a6 a7 = some (!(splitR a0).2.2 && mayL a0.data.toList, decide ((a1.size : Int) > 100)) := by
  unfold long_Needs.f
  rw [split_f a0 h, may_f h]
  simp only [Option.bind_some]
  cases (splitR a0).2.2 <;> rfl
theorem split_short {s : ByteArray} (h : mayL s.data.toList = true) (h1 : s.size ≤ 100) : (splitR s).2.2 = true := by unfold splitR; rw [if_pos h, if_pos h1]
theorem split_long {s : ByteArray} (h1 : 256 < s.size) : (splitR s).2.2 = false := by
  unfold splitR
  by_cases h : mayL s.data.toList = true
  · rw [if_pos h, if_neg (by omega)]
    unfold splitAt
    cases hs : slashFrom s.data.toList (s.size - 101) with
    | none => rfl
    | some m =>
      have := (slashFrom_some hs).1
      simp only
      rw [if_pos (by omega)]
      rfl
  · rw [if_neg h]; rfl

end Go.Proofs.Ytddjnicmpgbcgaa.X
namespace Go.Proofs.Ytddjnicmpgbcgaa.X
open Go.RowKit Go.Proofs.YtddjnicmpgbcgaaW.PrintWords Go.Proofs.YtddjnicmpgbcgaaW.PrintLast Go.Proofs.YtddjnicmpgbcgaaW.PrintMore
attribute [local go_sem] max2_int min2_int max_two min_two max_three min_three max_four min_four
set_option linter.unusedVariables false
set_option linter.unusedSimpArgs false

open Go.Proofs.YtddjnicmpgbcgaaY
abbrev Nd := S23
def okN (n : Nd) : Bool := decide (n.f0.size ≤ 400) && (decide (n.f1.size ≤ 400) && decide (n.f7.size ≤ 5000))
theorem okN_iff {n : Nd} : okN n = true ↔ n.f0.size ≤ 400 ∧ n.f1.size ≤ 400 ∧ n.f7.size ≤ 5000 := by simp [okN]
theorem few5 (n : Nd) : reelkeeperlaw05_Few.f n.f0 n.f1 n.f2 n.f3 n.f4 n.f5 n.f6 n.f7 = some (okN n) := by
  unfold reelkeeperlaw05_Few.f okN
  by_cases h0 : n.f0.size ≤ 400
  · rw [if_pos (by omega)]
    by_cases h1 : n.f1.size ≤ 400
    · rw [if_pos (by omega)]
      simp only [h0, h1, decide_true, Bool.true_and]
      congr 1
      by_cases h7 : n.f7.size ≤ 5000
      · simp [h7]; omega
      · simp [h7]; omega
    · rw [if_neg (by omega)]; simp [h1]
  · rw [if_neg (by omega)]; simp [h0]

end Go.Proofs.Ytddjnicmpgbcgaa.X
namespace Go.Proofs.Ytddjnicmpgbcgaa.X
open Go.RowKit Go.Proofs.YtddjnicmpgbcgaaW.PrintWords Go.Proofs.YtddjnicmpgbcgaaW.PrintLast Go.Proofs.YtddjnicmpgbcgaaW.PrintMore
attribute [local go_sem] max2_int min2_int max_two min_two max_three min_three max_four min_four
set_option linter.unusedVariables false
set_option linter.unusedSimpArgs false

open Go.Proofs.YtddjnicmpgbcgaaY
theorem splitR_may {s : ByteArray} (h : (splitR s).2.2 = true) : mayL s.data.toList = true := by
  unfold splitR at h
  cases hm : mayL s.data.toList
  · rw [hm] at h; cases h
  · rfl

/-- What is split is whole with a slash between, or the name alone. -/
theorem splitR_yes {s : ByteArray} (h : (splitR s).2.2 = true) :
    (s.size ≤ 100 ∧ splitR s = (⟨#[]⟩, s, true)) ∨ (100 < s.size ∧ ∃ x y, splitR s = (x, y, true) ∧ s.data.toList = x.data.toList ++ 47 :: y.data.toList ∧ x.size ≤ 155 ∧ y.size ≤ 100) := by
  have hm := splitR_may h
  have hz : s.data.toList.length = s.size := Array.length_toList
  unfold splitR at h ⊢
  rw [hm] at h ⊢
  simp only [if_true] at h ⊢
  by_cases h1 : s.size ≤ 100
  · rw [_root_.if_pos h1] at h ⊢
    exact .inl ⟨h1, rfl⟩
  · rw [_root_.if_neg h1] at h ⊢
    refine .inr ⟨by omega, ?_⟩
    cases hf : slashFrom s.data.toList (s.size - 101) with
    | none => rw [hf] at h; cases h
    | some m =>
      rw [hf] at h
      obtain ⟨hge, hq⟩ := slashFrom_some hf
      have hlt := (List.getElem?_eq_some_iff.1 hq).1
      unfold splitAt at h ⊢
      by_cases h2 : m > 155
      · simp only [h2, if_true] at h; cases h
      · simp only [h2, if_false]
        refine ⟨_, _, rfl, ?_, ?_, ?_⟩
        · have e1 : (s.extract 0 m).data.toList = s.data.toList.take m := by rw [Lib.extract_data]; simp
          rw [e1, Lib.extract_to_end]
          exact list_at hq
        · rw [ByteArray.size_extract]; omega
        · rw [ByteArray.size_extract]; omega

theorem empty_iff (s : ByteArray) : s.data.toList = [] ↔ s = ⟨#[]⟩ := by
  constructor
  · intro h; exact ext_data h
  · rintro rfl; rfl

theorem splitR_no {s : ByteArray} (h : (splitR s).2.2 = false) : splitR s = noSplit ∧ (mayL s.data.toList = false ∨ 100 < s.size) := by
  unfold splitR at h ⊢
  cases hm : mayL s.data.toList
  · exact ⟨rfl, .inl rfl⟩
  · rw [hm] at h
    simp only [if_true] at h ⊢
    by_cases h1 : s.size ≤ 100
    · rw [_root_.if_pos h1] at h; cases h
    · rw [_root_.if_neg h1] at h ⊢
      refine ⟨?_, .inr (by omega)⟩
      cases hf : slashFrom s.data.toList (s.size - 101) with
      | none => rfl
      | some m =>
        rw [hf] at h
        unfold splitAt at h ⊢
        by_cases h2 : m > 155
        · simp only [h2, if_true]
        · simp only [h2, if_false] at h; cases h

theorem join_f {a b : ByteArray} (h : a.size + b.size + 1 ≤ 9223372036854775807) : path_Join.f a b = some (if a.data.toList = [] then b else (a ++ (⟨#[47]⟩ : ByteArray)) ++ b) := by
  unfold path_Join.f
  rw [Lib.toList_data]
  by_cases h1 : a.data.toList = []
  · rw [if_pos h1, if_pos h1]
  · rw [if_neg h1, if_neg h1, if_pos (by omega), if_pos (by rw [ByteArray.size_append]; show a.size + 1 + b.size ≤ _; omega)]

theorem shortB_size (s : ByteArray) : (shortB s).size ≤ 100 := by
  unfold shortB
  by_cases h : 100 < s.size
  · rw [if_pos h, ByteArray.size_extract]; omega
  · rw [if_neg h]; omega
theorem shortB_few {s : ByteArray} (h : ¬ 100 < s.size) : shortB s = s := by unfold shortB; rw [if_neg h]
theorem ne_nil {s : ByteArray} (h : 0 < s.size) : ¬ s.toList = ([] : List UInt8) := by
  rw [Lib.toList_data]
  intro e
  have : s.data.toList.length = s.size := Array.length_toList
  rw [e] at this
  simp at this
  omega
theorem names_facts {n : Nd} (h0 : n.f0.size ≤ 400) (h1 : n.f1.size ≤ 400) (hm : mayL n.f0.data.toList = true) :
    ∃ own pre tl nm lk, long_Needs.f n.f0 n.f1 n.f2 n.f3 n.f4 n.f5 n.f6 n.f7 = some (nm, lk) ∧ long_Names.f n.f0 n.f1 n.f2 n.f3 n.f4 n.f5 n.f6 n.f7 = some (own, pre, tl) ∧
      (own.toList == ([] : List UInt8)) = false ∧ own.size ≤ 100 ∧ pre.size ≤ 155 ∧ tl.size ≤ 100 ∧ (nm = false → ∃ j, path_Join.f pre own = some j ∧ (j.toList == n.f0.toList) = true) ∧ (lk = false → (tl.toList == n.f1.toList) = true) ∧ (nm = true → 100 < n.f0.size) ∧ lk = decide ((n.f1.size : Int) > 100) := by
  have hs1 := shortB_size n.f1
  have hs0 := shortB_size n.f0
  have hlink : (decide ((n.f1.size : Int) > 100)) = false → ((shortB n.f1).toList == n.f1.toList) = true := fun h => by rw [shortB_few (by simp at h; omega)]; simp
  have hne0 : 0 < n.f0.size := by
    rcases Nat.eq_zero_or_pos n.f0.size with e | e
    · exact absurd (List.eq_nil_of_length_eq_zero (show n.f0.data.toList.length = 0 by rw [Array.length_toList]; exact e)) (mayL_ne hm)
    · exact e
  unfold long_Names.f
  rw [needs_f n.f0 n.f1 n.f2 n.f3 n.f4 n.f5 n.f6 n.f7 (by omega), split_f n.f0 (by omega), hm]
  simp only [Option.bind_some, Bool.and_true]
  cases hs : (splitR n.f0).2.2 with
  | false =>
    obtain ⟨hno, hbig⟩ := splitR_no hs
    have hb : 100 < n.f0.size := by
      rcases hbig with h | h
      · rw [hm] at h; cases h
      · exact h
    have hown : (shortB n.f0).size = 100 := by unfold shortB; rw [if_pos hb, ByteArray.size_extract]; omega
    refine ⟨shortB n.f0, ⟨#[]⟩, shortB n.f1, true, _, rfl, by rw [hno]; rfl, beq_false_of_ne (ne_nil (by omega)), by omega, by show 0 ≤ _; omega, hs1, (fun h => by cases h), hlink, fun _ => hb, rfl⟩
  | true =>
    rcases splitR_yes hs with ⟨hle, he⟩ | ⟨hgt, x, y, he, hxy, hx, hy⟩
    · refine ⟨n.f0, ⟨#[]⟩, shortB n.f1, false, _, rfl, by rw [he]; rfl, beq_false_of_ne (ne_nil hne0), hle, by show 0 ≤ _; omega, hs1, (fun _ => ⟨_, join_f (by show 0 + n.f0.size + 1 ≤ _; omega), ?_⟩), hlink, (fun h => by cases h), rfl⟩
      rw [if_pos rfl]; simp
    · have hmm : mayL x.data.toList = true ∧ mayL y.data.toList = true := by
        rw [hxy, mayL_append, Bool.and_eq_true, Bool.and_eq_true] at hm
        exact hm.1
      have hy0 : 0 < y.size := by
        rcases Nat.eq_zero_or_pos y.size with e | e
        · exact absurd (List.eq_nil_of_length_eq_zero (show y.data.toList.length = 0 by rw [Array.length_toList]; exact e)) (mayL_ne hmm.2)
        · exact e
      refine ⟨y, x, shortB n.f1, false, _, rfl, by rw [he]; rfl, beq_false_of_ne (ne_nil hy0), hy, hx, hs1, (fun _ => ⟨_, join_f (by omega), ?_⟩), hlink, (fun h => by cases h), rfl⟩
      rw [if_neg (mayL_ne hmm.1), beq_iff_eq, Lib.toList_data, Lib.toList_data, app_data, app_data, hxy]
      simp

end Go.Proofs.Ytddjnicmpgbcgaa.X
namespace Go.Proofs.Ytddjnicmpgbcgaa.X
open Go.RowKit Go.Proofs.YtddjnicmpgbcgaaW.PrintWords Go.Proofs.YtddjnicmpgbcgaaW.PrintLast Go.Proofs.YtddjnicmpgbcgaaW.PrintMore
attribute [local go_sem] max2_int min2_int max_two min_two max_three min_three max_four min_four
set_option linter.unusedVariables false
set_option linter.unusedSimpArgs false

open Go.Proofs.YtddjnicmpgbcgaaY
def textB (s : ByteArray) : Bool := decide (1 ≤ s.size) && (decide (s.size ≤ 300) && !s.data.toList.contains 0)
theorem long_text (s : ByteArray) : long_Text.f s = some (textB s) := by
  unfold long_Text.f textB strings_IndexByte.f
  have hs : s.data.toList.length = s.size := Array.length_toList
  by_cases h0 : s.toList = ([] : List UInt8)
  · rw [if_pos h0]
    rw [Lib.toList_data] at h0
    rw [h0] at hs
    rw [decide_eq_false (by simp at hs; omega)]
    rfl
  · rw [if_neg h0]
    rw [Lib.toList_data] at h0
    have h1 : 1 ≤ s.size := by
      rcases Nat.eq_zero_or_pos s.size with e | e
      · rw [e] at hs; exact absurd (List.eq_nil_of_length_eq_zero hs) h0
      · exact e
    rw [decide_eq_true h1, Bool.true_and]
    by_cases h2 : (s.size : Int) ≤ 300
    · rw [if_pos h2, decide_eq_true (show s.size ≤ 300 by omega), Bool.true_and]
      simp only [Option.bind_some]
      congr 1
      rw [Lib.contains_iff_indexByte]
      have e0 : (0 : Int).toNat.toUInt8 = (0 : UInt8) := rfl
      rw [e0]
      by_cases h : Lib.indexByte s.data.toList 0 < 0
      · simp [h]
      · simp [h]; omega
    · rw [if_neg h2, decide_eq_false (show ¬ s.size ≤ 300 by omega), Bool.false_and]
/-! ### find, has -/

end Go.Proofs.Ytddjnicmpgbcgaa.X
namespace Go.Proofs.Ytddjnicmpgbcgaa.X
open Go.RowKit Go.Proofs.YtddjnicmpgbcgaaW.PrintWords Go.Proofs.YtddjnicmpgbcgaaW.PrintLast Go.Proofs.YtddjnicmpgbcgaaW.PrintMore
attribute [local go_sem] max2_int min2_int max_two min_two max_three min_three max_four min_four
set_option linter.unusedVariables false
set_option linter.unusedSimpArgs false

open Go.Proofs.YtddjnicmpgbcgaaY
theorem ref_text (s : ByteArray) (hs : s.size ≤ 4398046511104) : Ev (fun k => reelkeeperref05_Text.f k s) (textB s) := by
  have hln : s.data.toList.length = s.size := Array.length_toList
  have key : ∀ (d i : Nat), i + d = s.size → (0 : UInt8) ∉ s.data.toList.take i → Ev (fun k => reelkeeperref05_Text.l0 k s (i : Int)) (textB s) := by
    intro d
    induction d with
    | zero =>
      intro i hi hn
      rw [List.take_of_length_le (by omega)] at hn
      have hc : s.data.toList.contains 0 = false := by
        cases h : s.data.toList.contains 0 with
        | false => rfl
        | true => exact absurd (List.contains_iff_mem.1 h) hn
      refine Ev.step (fun _ => rfl) ?_
      simp only [reelkeeperref05_Text.l0]
      refine Ev.if_neg (by omega) ?_
      unfold textB
      rw [hc]
      by_cases h1 : 1 ≤ s.size
      · refine Ev.if_pos (by omega) ?_
        rw [decide_eq_true h1, Bool.true_and, Bool.not_false, Bool.and_true]
        have : decide ((s.size : Int) ≤ 300) = decide (s.size ≤ 300) := by congr 1; exact propext ⟨fun _ => by omega, fun _ => by omega⟩
        rw [this]
        exact Ev.now _
      · refine Ev.if_neg (by omega) ?_
        rw [decide_eq_false h1, Bool.false_and]
        exact Ev.now _
    | succ d ih =>
      intro i hi hn
      have hlt : i < s.size := by omega
      have hll : i < s.data.toList.length := by omega
      refine Ev.step (fun _ => rfl) ?_
      simp only [reelkeeperref05_Text.l0]
      refine Ev.if_pos (by omega) ?_
      refine Ev.if_pos (by omega) ?_
      by_cases h0 : bt s (i : Int) = 0
      · refine Ev.if_pos h0 ?_
        have hm : (0 : UInt8) ∈ s.data.toList := List.mem_of_getElem? ((bt_is hlt 0).1 h0)
        have : textB s = false := by
          unfold textB
          rw [List.contains_iff_mem.2 hm]
          simp
        rw [this]
        exact Ev.now _
      · refine Ev.if_neg h0 ?_
        have hw : wrap64 ((i : Int) + 1) = ((i + 1 : Nat) : Int) := by rw [wrap_id (by omega) (by omega)]; omega
        rw [hw]
        refine ih (i + 1) (by omega) ?_
        rw [List.take_succ_eq_append_getElem hll]
        simp only [List.mem_append, List.mem_singleton, not_or]
        exact ⟨hn, fun e => h0 ((bt_is hlt 0).2 (by rw [List.getElem?_eq_getElem hll, ← e]))⟩
  exact key s.size 0 (by omega) (by simp)

end Go.Proofs.Ytddjnicmpgbcgaa.X
namespace Go.Proofs.Ytddjnicmpgbcgaa.X
open Go.RowKit Go.Proofs.YtddjnicmpgbcgaaW.PrintWords Go.Proofs.YtddjnicmpgbcgaaW.PrintLast Go.Proofs.YtddjnicmpgbcgaaW.PrintMore
attribute [local go_sem] max2_int min2_int max_two min_two max_three min_three max_four min_four
set_option linter.unusedVariables false
set_option linter.unusedSimpArgs false

open Go.Proofs.YtddjnicmpgbcgaaY
theorem longHd_in {kind : Int} {s : ByteArray} (h : 0 ≤ kind ∧ kind ≤ 255) (hs : s.size ≤ 10000) : hdIn (longHd kind s) := ⟨h, by show (0 : Int) ≤ _; decide, by show (0 : Int) ≤ _; decide, by show (0 : Int) ≤ _; decide, by show (s.size : Int) + 1 ≤ _; omega, by show (0 : Int) ≤ _; decide, by show (0 : Int) ≤ _; decide, by show (0 : Int) ≤ _; decide⟩
/-- What a long text's blocks are. -/
def longB (kind : Int) (s : ByteArray) : List (List Int) × Bool := if longOk kind (textB s) = true then (longL kind s, true) else ([], false)
theorem longPut_f {kind : Int} {s : ByteArray} (h : 0 ≤ kind ∧ kind ≤ 255) (hs : s.size ≤ 10000) : long_Put.f kind s = some (longB kind s) := by
  unfold long_Put.f longB
  rw [if_pos ⟨h, hs⟩, long_text]
  rfl
theorem longL_length (kind : Int) (s : ByteArray) : (longL kind s).length = 1 + manyB (s.size + 1) := by
  unfold longL
  rw [List.length_cons, cutL_eq, (cutB_length _ _ rfl).1, bytesOf_length, ByteArray.size_append, Nat.add_comm]
  rfl
theorem longB_length {kind : Int} {s : ByteArray} (hs : s.size ≤ 10000) : (longB kind s).1.length ≤ 1000 := by
  unfold longB
  by_cases h : longOk kind (textB s) = true
  · rw [if_pos h, longL_length]
    unfold manyB
    omega
  · rw [if_neg h]; decide
/-- What a node needs: a long name, a long link. -/
def needsB (a0 a1 : ByteArray) : Bool × Bool := (!(splitR a0).2.2 && mayL a0.data.toList, decide ((a1.size : Int) > 100))
theorem needs_b (a0 a1 : ByteArray) (a2 a3 a4 a5 a6 : Int) (a7 : ByteArray) (h : a0.size ≤ 10000) : long_Needs.f a0 a1 a2 a3 a4 a5 a6 a7 = some (needsB a0 a1) := by
  rw [needs_f a0 a1 a2 a3 a4 a5 a6 a7 (by omega)]
  rfl
/-- The names of a node's header. -/
def namesB (a0 a1 : ByteArray) : ByteArray × ByteArray × ByteArray := (if (needsB a0 a1).1 = true then shortB a0 else (splitR a0).2.1, (splitR a0).1, shortB a1)
theorem names_f (a0 a1 : ByteArray) (a2 a3 a4 a5 a6 : Int) (a7 : ByteArray) (h : a0.size ≤ 10000) : long_Names.f a0 a1 a2 a3 a4 a5 a6 a7 = some (namesB a0 a1) := by
  unfold long_Names.f namesB
  rw [split_f a0 (by omega), needs_f a0 a1 a2 a3 a4 a5 a6 a7 (by omega)]
  rfl
theorem needs_split {a0 a1 : ByteArray} (h : (needsB a0 a1).1 = true) : splitR a0 = noSplit := by
  unfold needsB at h
  simp only [Bool.and_eq_true, Bool.not_eq_true'] at h
  exact (splitR_no h.1).1
/-- What stands ahead. -/
def aheadB (a0 a1 : ByteArray) : List (List Int) := (if (needsB a0 a1).2 = true then (longB 75 a1).1 else []) ++ (if (needsB a0 a1).1 = true then (longB 76 a0).1 else [])
theorem aheadB_length {a0 a1 : ByteArray} (h0 : a0.size ≤ 10000) (h1 : a1.size ≤ 10000) : (if (needsB a0 a1).2 = true then (longB 75 a1).1 else []).length + (if (needsB a0 a1).1 = true then (longB 76 a0).1 else []).length ≤ 100000 := by
  have g1 := longB_length (kind := 75) h1
  have g0 := longB_length (kind := 76) h0
  have e : ([] : List (List Int)).length = 0 := rfl
  split <;> split <;> (try rw [e]) <;> omega
theorem aheadF_f {is : Bool} {kind : Int} {s : ByteArray} (h : 0 ≤ kind ∧ kind ≤ 255) (hs : s.size ≤ 10000) : aheadF is kind s = some (if is = true then (longB kind s).1 else []) := by
  unfold aheadF
  cases is with
  | true => rw [if_pos rfl, if_pos rfl, longPut_f h hs]; rfl
  | false => rfl
theorem ahead_f (a0 a1 : ByteArray) (a2 a3 a4 a5 a6 : Int) (a7 : ByteArray) (h0 : a0.size ≤ 10000) (h1 : a1.size ≤ 10000) : long_Ahead.f a0 a1 a2 a3 a4 a5 a6 a7 = some (aheadB a0 a1) := by
  unfold long_Ahead.f
  rw [needs_f a0 a1 a2 a3 a4 a5 a6 a7 (by omega)]
  simp only [Option.bind_some]
  rw [aheadF_f (by decide) h1, aheadF_f (by decide) h0]
  simp only [Option.bind_some]
  exact if_pos (aheadB_length h0 h1)
/-- Rows that a call tells, with a flag. -/
theorem rows_flag {f : FuncId} {args : Array Value} {l : List (List Int)} {b : Bool} {W : World} (h : Calls Try.prog f args W fun e w' => ∃ v0_ : Value, e = .returned (.tuple #[v0_, .bool b]) ∧ Kd.R kRow 50 w' W.heap.size (fun _ => True) v0_ l ∧ Below W.heap.size W w') :
    Calls Try.prog f args W fun e w' => ∃ A c, e = .returned (.tuple #[.slice A l.length c, .bool b]) ∧ Aside0 (Kd.C kRow w' A l.length l) ∧ Aside0 (l.length ≤ c) ∧ Below W.heap.size W w' := h.mono (by
  rintro e w' ⟨v, rfl, hR, hB⟩
  obtain ⟨A, c, rfl, hc, hC⟩ := Kd.R_reads hR
  exact ⟨A, c, rfl, ⟨hC⟩, ⟨hc⟩, hB⟩)
theorem rows_alone {f : FuncId} {args : Array Value} {l : List (List Int)} {W : World} (h : Calls Try.prog f args W fun e w' => ∃ v0_ : Value, e = .returned v0_ ∧ Kd.R kRow 50 w' W.heap.size (fun _ => True) v0_ l ∧ Below W.heap.size W w') :
    Calls Try.prog f args W fun e w' => ∃ A c, e = .returned (.slice A l.length c) ∧ Aside0 (Kd.C kRow w' A l.length l) ∧ Aside0 (l.length ≤ c) ∧ Below W.heap.size W w' := h.mono (by
  rintro e w' ⟨v, rfl, hR, hB⟩
  obtain ⟨A, c, rfl, hc, hC⟩ := Kd.R_reads hR
  exact ⟨A, c, rfl, ⟨hC⟩, ⟨hc⟩, hB⟩)

end Go.Proofs.Ytddjnicmpgbcgaa.X
namespace Go.Proofs.Ytddjnicmpgbcgaa.X
open Go.RowKit Go.Proofs.YtddjnicmpgbcgaaW.PrintWords Go.Proofs.YtddjnicmpgbcgaaW.PrintLast Go.Proofs.YtddjnicmpgbcgaaW.PrintMore
attribute [local go_sem] max2_int min2_int max_two min_two max_three min_three max_four min_four
set_option linter.unusedVariables false
set_option linter.unusedSimpArgs false

open Go.Proofs.YtddjnicmpgbcgaaY
theorem Ev.mapd {α β : Type} {g : Nat → Option α} {r : α} (f : α → β) (h : Ev g r) : Ev (fun k => (g k).map f) (f r) := by
  obtain ⟨K, hK⟩ := h
  exact ⟨K, fun k hk => by simp only [hK k hk, Option.map_some]⟩
theorem strNought : strOfNums [0] = (⟨#[0]⟩ : ByteArray) := rfl
theorem refLong_ev {kind : Int} {s : ByteArray} (h : 0 ≤ kind ∧ kind ≤ 255) (hs : s.size ≤ 10000) : Ev (fun k => refLong k kind s) (longL kind s) := by
  unfold refLong
  have hp := refPut_ev (longHd kind s) (longHd_in h hs) (by show 13 ≤ _; decide) (by show 0 ≤ _; decide) (by show 0 ≤ _; decide)
  refine Ev.bind hp ?_
  rw [strNought]
  refine Ev.bind (refCut_ev _ (by rw [ByteArray.size_append]; show s.size + 1 ≤ _; omega)) ?_
  refine Ev.if_pos ⟨hs, ?_⟩ (Ev.now _)
  rw [cutL_eq, (cutB_length _ _ rfl).1, bytesOf_length, ByteArray.size_append]
  show manyB (s.size + 1) ≤ _
  unfold manyB
  omega
theorem refPut5_ev {kind : Int} {s : ByteArray} (h : 0 ≤ kind ∧ kind ≤ 255) (hs : s.size ≤ 10000) : Ev (fun k => reelkeeperref05_Put.f k kind s) (longB kind s) := by
  unfold reelkeeperref05_Put.f
  refine Ev.bind (ref_text s (by omega)) ?_
  unfold longB
  by_cases ho : longOk kind (textB s) = true
  · rw [_root_.if_pos ho]
    refine Ev.if_pos ho ?_
    exact Ev.mapd (fun l => (l, true)) (refLong_ev h hs)
  · rw [_root_.if_neg ho]
    exact Ev.if_neg ho (Ev.now _)
theorem refNeeds_ev (a0 a1 : ByteArray) (a2 a3 a4 a5 a6 : Int) (a7 : ByteArray) (h : a0.size ≤ 10000) : Ev (fun k => reelkeeperref05_Needs.f k a0 a1 a2 a3 a4 a5 a6 a7) (needsB a0 a1) := by
  unfold reelkeeperref05_Needs.f needsB
  refine Ev.bind (ref_may a0 (by omega)) (Ev.bind (ref_split a0 (by omega)) ?_)
  cases mayL a0.data.toList with
  | true => exact Ev.if_pos rfl (by rw [Bool.and_true]; exact Ev.now _)
  | false => exact Ev.if_neg (by decide) (by rw [Bool.and_false]; exact Ev.now _)
theorem short_f (s : ByteArray) : reelkeeperref05_short.f s = some (shortB s) := by
  unfold reelkeeperref05_short.f shortB
  by_cases h : 100 < s.size
  · rw [if_pos (by omega), if_pos (by decide), if_pos (by omega), if_pos h]
  · rw [if_neg (by omega), if_neg h]
theorem refNames_ev (a0 a1 : ByteArray) (a2 a3 a4 a5 a6 : Int) (a7 : ByteArray) (h : a0.size ≤ 10000) : Ev (fun k => reelkeeperref05_Names.f k a0 a1 a2 a3 a4 a5 a6 a7) (namesB a0 a1) := by
  unfold reelkeeperref05_Names.f namesB
  refine Ev.bind (refNeeds_ev a0 a1 a2 a3 a4 a5 a6 a7 h) ?_
  cases hq : (needsB a0 a1).1 with
  | true =>
    refine Ev.if_pos rfl (Ev.of_eq fun _ => ?_)
    rw [short_f, short_f, needs_split hq]
    rfl
  | false =>
    refine Ev.if_neg (by decide) (Ev.bind (ref_split a0 (by omega)) (Ev.of_eq fun _ => ?_))
    rw [short_f]
    rfl
theorem refAheadF_ev {is : Bool} {kind : Int} {s : ByteArray} (h : 0 ≤ kind ∧ kind ≤ 255) (hs : s.size ≤ 10000) : Ev (fun k => refAhead k is kind s) (if is = true then (longB kind s).1 else []) := by
  unfold refAhead
  cases is with
  | true =>
    exact Ev.if_pos rfl (Ev.mapd (fun l => l.1) (refPut5_ev h hs))
  | false => exact Ev.now _
theorem refAhead_ev (a0 a1 : ByteArray) (a2 a3 a4 a5 a6 : Int) (a7 : ByteArray) (h0 : a0.size ≤ 10000) (h1 : a1.size ≤ 10000) : Ev (fun k => reelkeeperref05_Ahead.f k a0 a1 a2 a3 a4 a5 a6 a7) (aheadB a0 a1) := by
  unfold reelkeeperref05_Ahead.f
  refine Ev.bind (refNeeds_ev a0 a1 a2 a3 a4 a5 a6 a7 h0) (Ev.bind (refAheadF_ev (by decide) h1) (Ev.bind (refAheadF_ev (by decide) h0) ?_))
  exact Ev.if_pos (aheadB_length h0 h1) (Ev.now _)

end Go.Proofs.Ytddjnicmpgbcgaa.X
