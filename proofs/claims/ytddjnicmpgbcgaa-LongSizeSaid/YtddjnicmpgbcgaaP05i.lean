/- Long names, plainly: their rows. -/
import Derived.Test.YtddjnicmpgbcgaaXK
import Derived.Test.YtddjnicmpgbcgaaXGlong
import Derived.Test.YtddjnicmpgbcgaaYPath
import Derived.Test.YtddjnicmpgbcgaaYBytes
import Derived.Test.YtddjnicmpgbcgaaYCopy
import Derived.Test.YtddjnicmpgbcgaaYConv
import Derived.Test.YtddjnicmpgbcgaaPG02
import Derived.Test.YtddjnicmpgbcgaaPG02
import Derived.Test.YtddjnicmpgbcgaaPG03
import Derived.Test.YtddjnicmpgbcgaaPG04
import Derived.Test.YtddjnicmpgbcgaaPG04
import Derived.Test.YtddjnicmpgbcgaaPG05
import Derived.Test.YtddjnicmpgbcgaaPG05
import Derived.Test.YtddjnicmpgbcgaaPG05
import Derived.Test.YtddjnicmpgbcgaaPG05
import Derived.Test.YtddjnicmpgbcgaaP05h
import Derived.Lib.IndexAny
namespace Go.Proofs.Ytddjnicmpgbcgaa.X
open Go.RowKit Go.Proofs.YtddjnicmpgbcgaaW.PrintWords Go.Proofs.YtddjnicmpgbcgaaW.PrintLast Go.Proofs.YtddjnicmpgbcgaaW.PrintMore
attribute [local go_sem] max2_int min2_int max_two min_two max_three min_three max_four min_four
set_option linter.unusedVariables false
set_option linter.unusedSimpArgs false

open Go.Proofs.YtddjnicmpgbcgaaY
theorem longB_yes {kind : Int} {s : ByteArray} (h : (longB kind s).2 = true) : (kind = 75 ∨ kind = 76) ∧ textB s = true ∧ longB kind s = (longL kind s, true) := by
  unfold longB at h ⊢
  by_cases c : longOk kind (textB s) = true
  · rw [if_pos c]
    unfold longOk at c
    simp only [Bool.and_eq_true, Bool.or_eq_true, beq_iff_eq] at c
    exact ⟨c.1, c.2, rfl⟩
  · rw [if_neg c] at h; cases h
theorem textB_size {s : ByteArray} (h : textB s = true) : 1 ≤ s.size ∧ s.size ≤ 300 := by
  unfold textB at h
  simp only [Bool.and_eq_true, decide_eq_true_eq] at h
  exact ⟨h.1, h.2.1⟩
theorem textB_nought {s : ByteArray} (h : textB s = true) : (0 : UInt8) ∉ s.data.toList := by
  unfold textB at h
  simp only [Bool.and_eq_true, decide_eq_true_eq, Bool.not_eq_true'] at h
  intro hm
  rw [List.contains_iff_mem.2 hm] at h
  exact absurd h.2.2 (by decide)
theorem longL_two {kind : Int} {s : ByteArray} (h : s.size ≤ 300) : (longL kind s).length = 2 := by
  rw [longL_length]; unfold manyB; omega
theorem longB_is {kind : Int} {s : ByteArray} (hk : kind = 75 ∨ kind = 76) : longB kind s = if textB s = true then (longL kind s, true) else ([], false) := by
  unfold longB longOk
  rcases hk with rfl | rfl
  · rfl
  · rfl
theorem longL_rows {kind : Int} {s : ByteArray} (h : s.size ≤ 300) : longL kind s = [(headPut (longHd kind s)).1, padL (bytesOf s ++ [0])] := by
  unfold longL
  have hz : (bytesOf s).length = s.size := bytesOf_length s
  have e : bytesOf (s ++ (⟨#[0]⟩ : ByteArray)) = bytesOf s ++ [0] := by rw [bytesOf_append]; rfl
  rw [cutL_eq, e, cutB_cons (by simp), cutB_nil (by rw [List.length_drop, List.length_append, List.length_singleton]; omega), List.take_of_length_le (by rw [List.length_append, List.length_singleton]; omega)]
theorem upto_nought {a b x y : List Int} (ha : (0 : Int) ∉ a) (hb : (0 : Int) ∉ b) (h : a ++ 0 :: x = b ++ 0 :: y) : a = b := by
  induction a generalizing b with
  | nil =>
    cases b with
    | nil => rfl
    | cons c b => simp only [List.nil_append, List.cons_append, List.cons.injEq] at h; exact absurd (by rw [h.1]; simp) hb
  | cons c a ih =>
    cases b with
    | nil => simp only [List.nil_append, List.cons_append, List.cons.injEq] at h; exact absurd (by rw [h.1]; simp) ha
    | cons d b =>
      simp only [List.cons_append, List.cons.injEq] at h
      rw [h.1, ih (fun hm => ha (List.mem_cons_of_mem _ hm)) (fun hm => hb (List.mem_cons_of_mem _ hm)) h.2]
theorem bytesOf_nought {s : ByteArray} (h : (0 : UInt8) ∉ s.data.toList) : (0 : Int) ∉ bytesOf s := by
  intro hm
  unfold bytesOf at hm
  obtain ⟨c, hc, e⟩ := List.mem_map.1 hm
  have : c = 0 := UInt8.toNat_inj.1 (by simpa using Int.ofNat.inj e)
  exact h (this ▸ hc)
theorem padL_text {s t : ByteArray} (hs : (0 : UInt8) ∉ s.data.toList) (ht : (0 : UInt8) ∉ t.data.toList) : padL (bytesOf s ++ [0]) = padL (bytesOf t ++ [0]) ↔ s = t := by
  constructor
  · intro h
    unfold padL at h
    rw [List.append_assoc, List.append_assoc] at h
    exact bytesOf_inj (upto_nought (bytesOf_nought hs) (bytesOf_nought ht) h)
  · rintro rfl; rfl
theorem byteOk_padL {l : List Int} (h : byteOk l) : byteOk (padL l) := byteOk_app h (byteOk_zeros _)
theorem byteOk_text (s : ByteArray) : byteOk (padL (bytesOf s ++ [0])) := byteOk_padL (byteOk_app (byteOk_bytesOf s) (fun c hc => by rw [List.mem_singleton] at hc; omega))
theorem toList_eq {a b : ByteArray} : (a.toList == b.toList) = decide (a = b) := by
  rw [Bool.eq_iff_iff, beq_iff_eq, decide_eq_true_eq]
  constructor
  · intro h
    rw [Lib.toList_data, Lib.toList_data] at h
    exact ByteArray.ext (Array.ext' h)
  · intro h; rw [h]

end Go.Proofs.Ytddjnicmpgbcgaa.X
