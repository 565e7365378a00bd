/- A node's header and blocks, plainly. -/
import Derived.Test.YtlecnodlnkanaaaXK
import Derived.Test.YtlecnodlnkanaaaXGtree
import Derived.Test.YtlecnodlnkanaaaXGlong
import Derived.Test.YtlecnodlnkanaaaXGlong
import Derived.Test.YtlecnodlnkanaaaXGhead
import Derived.Test.YtlecnodlnkanaaaYPath
import Derived.Test.YtlecnodlnkanaaaYBytes
import Derived.Test.YtlecnodlnkanaaaYCopy
import Derived.Test.YtlecnodlnkanaaaYConv
import Derived.Test.YtlecnodlnkanaaaPGA
import Derived.Test.YtlecnodlnkanaaaPGA
import Derived.Test.YtlecnodlnkanaaaPGA
import Derived.Test.YtlecnodlnkanaaaPGA
import Derived.Test.YtlecnodlnkanaaaPGA
import Derived.Test.YtlecnodlnkanaaaPGA
import Derived.Test.YtlecnodlnkanaaaPGA
import Derived.Test.YtlecnodlnkanaaaPGA
import Derived.Test.YtlecnodlnkanaaaPGA
import Derived.Test.YtlecnodlnkanaaaPGA
import Derived.Test.YtlecnodlnkanaaaPGA
import Derived.Test.YtlecnodlnkanaaaPGA
import Derived.Test.YtlecnodlnkanaaaP07a
import Derived.Lib.IndexAny
namespace Go.Proofs.Ytlecnodlnkanaaa.X
open Go.RowKit Go.Proofs.YtlecnodlnkanaaaW.PrintWords Go.Proofs.YtlecnodlnkanaaaW.PrintLast Go.Proofs.YtlecnodlnkanaaaW.PrintMore
attribute [local go_sem] max2_int min2_int max_two min_two max_three min_three max_four min_four
set_option linter.unusedVariables false
set_option linter.unusedSimpArgs false

open Go.Proofs.YtlecnodlnkanaaaY
theorem putN_ok8 {n : Int} (h0 : 0 ≤ n) (h : n ≤ 1099511627776) : (putN n 8).2 = true := by
  unfold putN
  rw [if_neg (by omega)]
  show (if n.toNat / 8 ^ 7 = 0 then (octL n.toNat 7 ++ [0], true) else if n.toNat / 256 ^ 7 = 0 then (128 :: bytL n.toNat 7, true) else ([], false)).2 = true
  by_cases c : n.toNat / 8 ^ 7 = 0
  · rw [if_pos c]
  · rw [if_neg c, if_pos]
    rw [Nat.div_eq_of_lt]
    have e : (256 : Nat) ^ 7 = 72057594037927936 := by decide
    omega
theorem putN_ok12 {n : Int} (h0 : 0 ≤ n) (h : n ≤ 1099511627776) : (putN n 12).2 = true := by
  unfold putN
  rw [if_neg (by omega)]
  show (if n.toNat / 8 ^ 11 = 0 then (octL n.toNat 11 ++ [0], true) else if n.toNat / 256 ^ 11 = 0 then (128 :: bytL n.toNat 11, true) else ([], false)).2 = true
  by_cases c : n.toNat / 8 ^ 11 = 0
  · rw [if_pos c]
  · rw [if_neg c, if_pos]
    rw [Nat.div_eq_of_lt]
    have e : (256 : Nat) ^ 11 = 309485009821345068724781056 := by decide
    omega
theorem mayL_nought {l : List UInt8} (h : mayL l = true) : (0 : UInt8) ∉ l := by
  unfold mayL at h
  simp only [Bool.and_eq_true, Bool.not_eq_true'] at h
  intro hm
  rw [List.contains_iff_mem.2 hm] at h
  exact absurd h.2.2 (by decide)
theorem extract_nought {s : ByteArray} (h : (0 : UInt8) ∉ s.data.toList) (a b : Nat) : (0 : UInt8) ∉ (s.extract a b).data.toList := by
  rw [Lib.extract_data]
  exact fun hm => h (List.mem_of_mem_drop (List.mem_of_mem_take hm))
theorem shortB_nought {s : ByteArray} (h : (0 : UInt8) ∉ s.data.toList) : (0 : UInt8) ∉ (shortB s).data.toList := by
  unfold shortB
  by_cases c : 100 < s.size
  · rw [if_pos c]; exact extract_nought h _ _
  · rw [if_neg c]; exact h
theorem mayL_pos {s : ByteArray} (h : mayL s.data.toList = true) : 0 < s.size ∧ s.size ≤ 300 := by
  have h3 := mayL_size h
  rw [Array.length_toList] at h3
  refine ⟨?_, h3⟩
  rcases Nat.eq_zero_or_pos s.size with e | e
  · exact absurd (List.eq_nil_of_length_eq_zero (show s.data.toList.length = 0 by rw [Array.length_toList]; exact e)) (mayL_ne h)
  · exact e
structure NamesFacts (a0 a1 : ByteArray) : Prop where
  own : 0 < (namesB a0 a1).1.size ∧ (namesB a0 a1).1.size ≤ 100 ∧ (0 : UInt8) ∉ (namesB a0 a1).1.data.toList
  pre : (namesB a0 a1).2.1.size ≤ 155 ∧ (0 : UInt8) ∉ (namesB a0 a1).2.1.data.toList
  link : (namesB a0 a1).2.2.size ≤ 100 ∧ (0 : UInt8) ∉ (namesB a0 a1).2.2.data.toList
theorem needs_no {a0 a1 : ByteArray} (hm : mayL a0.data.toList = true) (h : (needsB a0 a1).1 = false) : (splitR a0).2.2 = true := by
  unfold needsB at h
  rw [hm] at h
  simpa using h
theorem names_good {a0 a1 : ByteArray} (hm : mayL a0.data.toList = true) (hl : (0 : UInt8) ∉ a1.data.toList) : NamesFacts a0 a1 := by
  have hz := mayL_pos hm
  have hn := mayL_nought hm
  have hs1 := shortB_size a1
  have nil0 : (0 : UInt8) ∉ (⟨#[]⟩ : ByteArray).data.toList := by simp
  cases hq : (needsB a0 a1).1 with
  | true =>
    have hsp := needs_split hq
    have hbig : 100 < a0.size := by
      unfold needsB at hq
      simp only [Bool.and_eq_true, Bool.not_eq_true'] at hq
      rcases (splitR_no hq.1).2 with h | h
      · rw [hm] at h; cases h
      · exact h
    have e : namesB a0 a1 = (shortB a0, ⟨#[]⟩, shortB a1) := by unfold namesB; rw [hq, if_pos rfl, hsp]; rfl
    have hsz : (shortB a0).size = 100 := by unfold shortB; rw [if_pos hbig, ByteArray.size_extract]; omega
    refine ⟨?_, ?_, ?_⟩
    · rw [e]; exact ⟨by show 0 < (shortB a0).size; omega, by show (shortB a0).size ≤ 100; omega, shortB_nought hn⟩
    · rw [e]; exact ⟨by show 0 ≤ 155; omega, nil0⟩
    · rw [e]; exact ⟨hs1, shortB_nought hl⟩
  | false =>
    have e : namesB a0 a1 = ((splitR a0).2.1, (splitR a0).1, shortB a1) := by unfold namesB; rw [hq, if_neg (by decide)]
    rcases splitR_yes (needs_no hm hq) with ⟨hle, hs⟩ | ⟨hgt, x, y, hs, hxy, hx, hy⟩
    · rw [hs] at e
      refine ⟨?_, ?_, ?_⟩
      · rw [e]; exact ⟨hz.1, hle, hn⟩
      · rw [e]; exact ⟨by show 0 ≤ 155; omega, nil0⟩
      · rw [e]; exact ⟨hs1, shortB_nought hl⟩
    · rw [hs] at e
      have hmm : mayL x.data.toList = true ∧ mayL y.data.toList = true := by
        rw [hxy, mayL_append, Bool.and_eq_true, Bool.and_eq_true] at hm
        exact hm.1
      refine ⟨?_, ?_, ?_⟩
      · rw [e]; exact ⟨(mayL_pos hmm.2).1, hy, mayL_nought hmm.2⟩
      · rw [e]; exact ⟨hx, mayL_nought hmm.1⟩
      · rw [e]; exact ⟨hs1, shortB_nought hl⟩
theorem OneFacts.link {n : Nd} (h : OneFacts n) : (0 : UInt8) ∉ n.f1.data.toList ∧ n.f1.size ≤ 300 := by
  have nil : n.f1.size = 0 → (0 : UInt8) ∉ n.f1.data.toList := fun e => by
    have : n.f1.data.toList = [] := List.eq_nil_of_length_eq_zero (by rw [Array.length_toList]; exact e)
    rw [this]; simp
  rcases h.kind with ⟨_, e, _⟩ | ⟨_, e, _⟩ | ⟨_, e, _⟩ | ⟨_, e, _⟩
  · exact ⟨nil e, by omega⟩
  · exact ⟨mayL_nought e, (mayL_pos e).2⟩
  · exact ⟨textB_nought e, (textB_size e).2⟩
  · exact ⟨nil e, by omega⟩
theorem OneFacts.data {n : Nd} (h : OneFacts n) : n.f7.size ≤ 4000 := by
  rcases h.kind with ⟨_, _, e⟩ | ⟨_, _, e, _⟩ | ⟨_, _, e⟩ | ⟨_, _, e⟩ <;> omega
/-- A node's header. -/
def entryHd (n : Nd) : Hd := ⟨(namesB n.f0 n.f1).1, (namesB n.f0 n.f1).2.1, (namesB n.f0 n.f1).2.2, n.f3, n.f4, n.f5, (n.f7.size : Int), n.f6, n.f2, 0, 0⟩
theorem wordOk_of {s : ByteArray} {w : Nat} (h : s.size ≤ w) (hn : (0 : UInt8) ∉ s.data.toList) : wordOk s (w : Int) = true := by
  unfold wordOk
  rw [(noNought_iff s).2 hn, decide_eq_true (by omega)]
  rfl
theorem entryHd_ok {n : Nd} (h : OneFacts n) : hdOk (entryHd n) = true := by
  obtain ⟨⟨o1, o2, o3⟩, ⟨p1, p2⟩, ⟨l1, l2⟩⟩ := names_good h.path h.link.1
  have hk : n.f2 = 48 ∨ n.f2 = 49 ∨ n.f2 = 50 ∨ n.f2 = 53 := by
    rcases h.kind with ⟨e, _⟩ | ⟨e, _⟩ | ⟨e, _⟩ | ⟨e, _⟩ <;> omega
  have h77 : (entryHd n).f8 ≠ 77 := by show n.f2 ≠ 77; omega
  have ht : typeOk n.f2 = true := by rcases hk with e | e | e | e <;> (rw [e]; decide +kernel)
  have hd := h.data
  have w0 : wordOk (namesB n.f0 n.f1).1 100 = true := wordOk_of o2 o3
  have w1 : wordOk (namesB n.f0 n.f1).2.1 155 = true := wordOk_of p1 p2
  have w2 : wordOk (namesB n.f0 n.f1).2.2 100 = true := wordOk_of l1 l2
  have n3 := putN_ok8 h.mode.1 (by have := h.mode; omega)
  have n4 := putN_ok8 h.uid.1 h.uid.2
  have n5 := putN_ok8 h.gid.1 h.gid.2
  have n6 := putN_ok12 (n := (n.f7.size : Int)) (by omega) (by omega)
  have n7 := putN_ok12 h.time.1 h.time.2
  have hne : ((namesB n.f0 n.f1).1.toList == ([] : List UInt8)) = false := by rw [nil_size]; exact decide_eq_false (by omega)
  unfold hdOk hdA hdWords hdNumbers
  rw [if_neg h77, if_neg h77, if_neg h77]
  show ((!((namesB n.f0 n.f1).1.toList == ([] : List UInt8)) && (typeOk n.f2 && true)) && ((wordOk (namesB n.f0 n.f1).1 100 && (wordOk (namesB n.f0 n.f1).2.2 100 && (wordOk (namesB n.f0 n.f1).2.1 155 && true))) && ((putN n.f3 8).2 && ((putN n.f4 8).2 && ((putN n.f5 8).2 && ((putN (n.f7.size : Int) 12).2 && ((putN n.f6 12).2 && true))))))) = true
  rw [hne, ht, w0, w1, w2, n3, n4, n5, n6, n7]
  rfl
theorem entryHd_in {n : Nd} (h : OneFacts n) : hdIn (entryHd n) := by
  have hk : n.f2 = 48 ∨ n.f2 = 49 ∨ n.f2 = 50 ∨ n.f2 = 53 := by
    rcases h.kind with ⟨e, _⟩ | ⟨e, _⟩ | ⟨e, _⟩ | ⟨e, _⟩ <;> omega
  have hd := h.data
  obtain ⟨hm, hu, hg, ht⟩ := And.intro h.mode (And.intro h.uid (And.intro h.gid h.time))
  refine ⟨⟨by show 0 ≤ n.f2; omega, by show n.f2 ≤ 255; omega⟩, by show n.f3 ≤ _; omega, by show n.f4 ≤ _; omega, by show n.f5 ≤ _; omega, by show (n.f7.size : Int) ≤ _; omega, by show n.f6 ≤ _; omega, by show (0 : Int) ≤ _; omega, by show (0 : Int) ≤ _; omega⟩
/-- A node's blocks. -/
def entryB (n : Nd) : List (List Int) := aheadB n.f0 n.f1 ++ (hdBlk (entryHd n) :: cutL n.f7)

end Go.Proofs.Ytlecnodlnkanaaa.X
