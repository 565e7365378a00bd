/- Paths, plainly: what May of package path computes; small words. -/
import Derived.Test.YtklbnfpjjcidiaaXK
import Derived.Test.YtklbnfpjjcidiaaXGpath
import Derived.Test.YtklbnfpjjcidiaaYAll
import Derived.Test.YtklbnfpjjcidiaaXGlong
import Derived.Test.YtklbnfpjjcidiaaXreelkeeperlaw05Few
import Derived.Lib.IndexAny
namespace Go.Proofs.Ytklbnfpjjcidiaa.X
open Go.RowKit Go.Proofs.YtklbnfpjjcidiaaW.PrintWords Go.Proofs.YtklbnfpjjcidiaaW.PrintLast Go.Proofs.YtklbnfpjjcidiaaW.PrintMore
attribute [local go_sem] max2_int min2_int max_two min_two
set_option linter.unusedVariables false
set_option linter.unusedSimpArgs false

open Go.Proofs.YtklbnfpjjcidiaaY

theorem wrap_id {x : Int} (h0 : -9223372036854775808 ≤ x) (h1 : x ≤ 9223372036854775807) : wrap64 x = x := by unfold wrap64; omega

theorem mayA_eq (s : ByteArray) : mayA s = mayL s.data.toList := by
  unfold mayA mayL splitA
  have e : decide (Lib.indexByte s.data.toList 0 < 0) = !s.data.toList.contains 0 := by
    rw [Lib.contains_iff_indexByte]
    by_cases h : Lib.indexByte s.data.toList 0 < 0
    · simp [h]
    · simp [h]; omega
  rw [e, List.all_map, Array.length_toList]
  rfl

theorem may_f {s : ByteArray} (h : s.size ≤ 9223372036854775807) : path_May.f s = some (mayL s.data.toList) := by
  unfold path_May.f; rw [if_pos h, mayA_eq]
theorem mayL_size {l : List UInt8} (h : mayL l = true) : l.length ≤ 300 := by
  unfold mayL at h
  simp only [Bool.and_eq_true, decide_eq_true_eq] at h
  exact h.2.1

theorem mayL_append (a b : List UInt8) : mayL (a ++ 47 :: b) = (mayL a && mayL b && decide (a.length + b.length + 1 ≤ 300)) := by
  unfold mayL
  rw [splitL_append, List.all_append]
  have e : (a ++ 47 :: b).contains (0 : UInt8) = (a.contains 0 || b.contains 0) := by
    simp [List.contains_eq_any_beq, List.any_append]
  rw [e]
  simp only [List.length_append, List.length_cons]
  by_cases h1 : a.length + (b.length + 1) ≤ 300
  · have h2 : a.length ≤ 300 := by omega
    have h3 : b.length ≤ 300 := by omega
    have h4 : a.length + b.length + 1 ≤ 300 := by omega
    simp only [h1, h2, h3, h4, decide_true, Bool.true_and, Bool.and_true]
    cases (splitL a).all fun x => !oddL x <;> cases (splitL b).all fun x => !oddL x <;> cases a.contains 0 <;> cases b.contains 0 <;> rfl
  · have h4 : ¬ a.length + b.length + 1 ≤ 300 := by omega
    simp [h1, h4]

theorem mayL_ne {l : List UInt8} (h : mayL l = true) : l ≠ [] := by
  rintro rfl
  revert h; decide

theorem app_data (a b : ByteArray) : (a ++ b).data.toList = a.data.toList ++ b.data.toList := by simp

theorem bt_some {s : ByteArray} {n : Nat} (h : n < s.size) : ∃ c, s.data.toList[n]? = some c ∧ bt s (n : Int) = (c.toNat : Int) := by
  refine ⟨s[n], Lib.data_getElem? s n h, ?_⟩
  rw [← bt_at s (n : Int) (by simpa using h)]
  rfl
theorem bt_eq {s : ByteArray} {n : Nat} {c : UInt8} (h : s.data.toList[n]? = some c) : bt s (n : Int) = (c.toNat : Int) := by
  have hl := (List.getElem?_eq_some_iff.1 h).1
  rw [Array.length_toList] at hl
  obtain ⟨d, h1, h2⟩ := bt_some (s := s) (n := n) hl
  rw [h] at h1
  cases h1
  exact h2
theorem bt_is {s : ByteArray} {n : Nat} (h : n < s.size) (c : UInt8) : bt s (n : Int) = (c.toNat : Int) ↔ s.data.toList[n]? = some c := by
  obtain ⟨d, h1, h2⟩ := bt_some h
  rw [h2, h1]
  constructor
  · intro e; rw [UInt8.toNat_inj.1 (by omega : d.toNat = c.toNat)]
  · intro e; cases e; rfl

theorem list_at {l : List UInt8} {n : Nat} {c : UInt8} (h : l[n]? = some c) : l = l.take n ++ c :: l.drop (n + 1) := by
  obtain ⟨hlt, he⟩ := List.getElem?_eq_some_iff.1 h
  conv => lhs; rw [← List.take_append_drop n l, List.drop_eq_getElem_cons hlt, he]

theorem Ev.of_eq {α : Type} {g : Nat → Option α} {r : α} (h : ∀ k, g k = some r) : Ev g r := ⟨0, fun k _ => h k⟩
theorem Ev.if_pos {α : Type} {c : Prop} [Decidable c] {a b : Nat → Option α} {r : α} (hc : c) (h : Ev a r) : Ev (fun k => if c then a k else b k) r := by simpa only [_root_.if_pos hc] using h
theorem Ev.if_neg {α : Type} {c : Prop} [Decidable c] {a b : Nat → Option α} {r : α} (hc : ¬ c) (h : Ev b r) : Ev (fun k => if c then a k else b k) r := by simpa only [_root_.if_neg hc] using h

end Go.Proofs.Ytklbnfpjjcidiaa.X
namespace Go.Proofs.Ytklbnfpjjcidiaa.X
open Go.RowKit Go.Proofs.YtklbnfpjjcidiaaW.PrintWords Go.Proofs.YtklbnfpjjcidiaaW.PrintLast Go.Proofs.YtklbnfpjjcidiaaW.PrintMore
attribute [local go_sem] max2_int min2_int max_two min_two
set_option linter.unusedVariables false
set_option linter.unusedSimpArgs false

open Go.Proofs.YtklbnfpjjcidiaaY
def textB (s : ByteArray) : Bool := decide (1 ≤ s.size) && (decide (s.size ≤ 300) && !s.data.toList.contains 0)
theorem long_text (s : ByteArray) : long_Text.f s = some (textB s) := by
  unfold long_Text.f textB strings_IndexByte.f
  have hs : s.data.toList.length = s.size := Array.length_toList
  by_cases h0 : s.toList = ([] : List UInt8)
  · rw [if_pos h0]
    rw [Lib.toList_data] at h0
    rw [h0] at hs
    rw [decide_eq_false (by simp at hs; omega)]
    rfl
  · rw [if_neg h0]
    rw [Lib.toList_data] at h0
    have h1 : 1 ≤ s.size := by
      rcases Nat.eq_zero_or_pos s.size with e | e
      · rw [e] at hs; exact absurd (List.eq_nil_of_length_eq_zero hs) h0
      · exact e
    rw [decide_eq_true h1, Bool.true_and]
    by_cases h2 : (s.size : Int) ≤ 300
    · rw [if_pos h2, decide_eq_true (show s.size ≤ 300 by omega), Bool.true_and]
      simp only [Option.bind_some]
      congr 1
      rw [Lib.contains_iff_indexByte]
      have e0 : (0 : Int).toNat.toUInt8 = (0 : UInt8) := rfl
      rw [e0]
      by_cases h : Lib.indexByte s.data.toList 0 < 0
      · simp [h]
      · simp [h]; omega
    · rw [if_neg h2, decide_eq_false (show ¬ s.size ≤ 300 by omega), Bool.false_and]
/-! ### find, has -/

end Go.Proofs.Ytklbnfpjjcidiaa.X
namespace Go.Proofs.Ytklbnfpjjcidiaa.X
open Go.RowKit Go.Proofs.YtklbnfpjjcidiaaW.PrintWords Go.Proofs.YtklbnfpjjcidiaaW.PrintLast Go.Proofs.YtklbnfpjjcidiaaW.PrintMore
attribute [local go_sem] max2_int min2_int max_two min_two
set_option linter.unusedVariables false
set_option linter.unusedSimpArgs false

open Go.Proofs.YtklbnfpjjcidiaaY
abbrev Nd := S26
def okN (n : Nd) : Bool := decide (n.f0.size ≤ 400) && (decide (n.f1.size ≤ 400) && decide (n.f7.size ≤ 5000))
theorem okN_iff {n : Nd} : okN n = true ↔ n.f0.size ≤ 400 ∧ n.f1.size ≤ 400 ∧ n.f7.size ≤ 5000 := by simp [okN]
theorem few5 (n : Nd) : reelkeeperlaw05_Few.f n.f0 n.f1 n.f2 n.f3 n.f4 n.f5 n.f6 n.f7 = some (okN n) := by
  unfold reelkeeperlaw05_Few.f okN
  by_cases h0 : n.f0.size ≤ 400
  · rw [if_pos (by omega)]
    by_cases h1 : n.f1.size ≤ 400
    · rw [if_pos (by omega)]
      simp only [h0, h1, decide_true, Bool.true_and]
      congr 1
      by_cases h7 : n.f7.size ≤ 5000
      · simp [h7]; omega
      · simp [h7]; omega
    · rw [if_neg (by omega)]; simp [h1]
  · rw [if_neg (by omega)]; simp [h0]

end Go.Proofs.Ytklbnfpjjcidiaa.X
