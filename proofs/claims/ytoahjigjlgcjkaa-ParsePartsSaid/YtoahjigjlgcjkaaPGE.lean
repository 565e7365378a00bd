/- Nodes that may be alone, plainly. -/
import Derived.Test.YtoahjigjlgcjkaaXK
import Derived.Test.YtoahjigjlgcjkaaXGtree
import Derived.Test.YtoahjigjlgcjkaaYAll
import Derived.Test.YtoahjigjlgcjkaaPGA
import Derived.Test.YtoahjigjlgcjkaaXGlong
import Derived.Test.YtoahjigjlgcjkaaXGhead
import Derived.Test.YtoahjigjlgcjkaaXGentry
import Derived.Test.YtoahjigjlgcjkaaXGblock
import Derived.Test.YtoahjigjlgcjkaaXGnum
import Derived.Test.YtoahjigjlgcjkaaP04f
import Derived.Test.YtoahjigjlgcjkaaP04g
import Derived.Lib.IndexAny
namespace Go.Proofs.Ytoahjigjlgcjkaa.X
open Go.RowKit Go.Proofs.YtoahjigjlgcjkaaW.PrintWords Go.Proofs.YtoahjigjlgcjkaaW.PrintLast Go.Proofs.YtoahjigjlgcjkaaW.PrintMore
attribute [local go_sem] max2_int min2_int max_two min_two
set_option linter.unusedVariables false
set_option linter.unusedSimpArgs false

open Go.Proofs.YtoahjigjlgcjkaaY
theorem nil_size (s : ByteArray) : (s.toList == ([] : List UInt8)) = decide (s.size = 0) := by
  rw [Bool.eq_iff_iff, beq_iff_eq, decide_eq_true_eq, Lib.toList_data]
  have h : s.data.toList.length = s.size := Array.length_toList
  constructor
  · intro e; rw [e] at h; simpa using h.symm
  · intro e; rw [e] at h; exact List.eq_nil_of_length_eq_zero h
theorem nil_size' (s : ByteArray) : s.toList = ([] : List UInt8) ↔ s.size = 0 := by
  have := nil_size s
  rw [Bool.eq_iff_iff, beq_iff_eq, decide_eq_true_eq] at this
  exact this
/-- What else a node of its kind has. -/
def oneKind (n : Nd) : Bool :=
  if n.f2 = 48 then decide (n.f1.size = 0) && decide (n.f7.size ≤ 4000)
  else if n.f2 = 49 then (n.f3 == 0 && (n.f4 == 0 && (n.f5 == 0 && (n.f6 == 0 && decide (n.f7.size = 0))))) && mayL n.f1.data.toList
  else if n.f2 = 50 then textB n.f1 && decide (n.f7.size = 0)
  else if n.f2 = 53 then decide (n.f1.size = 0) && decide (n.f7.size = 0)
  else false
def oneB (n : Nd) : Bool := oneKind n && mayL n.f0.data.toList && (decide (n.f3 ≥ 0) && decide (n.f3 ≤ 4095)) && (decide (n.f4 ≥ 0) && decide (n.f4 ≤ 1099511627776)) && (decide (n.f5 ≥ 0) && decide (n.f5 ≤ 1099511627776)) && (decide (n.f6 ≥ 0) && decide (n.f6 ≤ 1099511627776))
theorem ask_b (n : Nd) (h1 : n.f1.size ≤ 9223372036854775807) : tree_One.ask n.f0 n.f1 n.f2 n.f3 n.f4 n.f5 n.f6 n.f7 = some (oneKind n) := by
  unfold tree_One.ask oneKind
  by_cases c1 : n.f2 = 48
  · rw [if_pos c1, if_pos c1]
    unfold tree_kinds_1.f
    by_cases c : n.f1.size = 0
    · rw [if_pos ((nil_size' _).2 c), decide_eq_true c, Bool.true_and]
      congr 2
      exact propext ⟨fun _ => by omega, fun _ => by omega⟩
    · rw [if_neg (fun e => c ((nil_size' _).1 e)), decide_eq_false c]; rfl
  rw [if_neg c1, if_neg c1]
  by_cases c2 : n.f2 = 49
  · rw [if_pos c2, if_pos c2]
    unfold tree_kinds_2.f tree_kinds_2.ask
    rw [nil_size]
    cases (n.f3 == 0 && (n.f4 == 0 && (n.f5 == 0 && (n.f6 == 0 && decide (n.f7.size = 0))))) with
    | true => rw [if_pos rfl, may_f h1, Bool.true_and]
    | false => rfl
  rw [if_neg c2, if_neg c2]
  by_cases c3 : n.f2 = 50
  · rw [if_pos c3, if_pos c3]
    unfold tree_kinds_3.f
    rw [long_text, nil_size]
    cases textB n.f1 <;> rfl
  rw [if_neg c3, if_neg c3]
  by_cases c4 : n.f2 = 53
  · rw [if_pos c4, if_pos c4]
    unfold tree_kinds_4.f
    rw [nil_size]
    by_cases c : n.f1.size = 0
    · rw [if_pos ((nil_size' _).2 c), decide_eq_true c, Bool.true_and]
    · rw [if_neg (fun e => c ((nil_size' _).1 e)), decide_eq_false c]; rfl
  rw [if_neg c4, if_neg c4]
theorem one_b (n : Nd) (h0 : n.f0.size ≤ 9223372036854775807) (h1 : n.f1.size ≤ 9223372036854775807) : tree_One.f n.f0 n.f1 n.f2 n.f3 n.f4 n.f5 n.f6 n.f7 = some (oneB n) := by
  unfold tree_One.f oneB
  rw [ask_b n h1, may_f h0]
  rfl
structure OneFacts (n : Nd) : Prop where
  path : mayL n.f0.data.toList = true
  mode : 0 ≤ n.f3 ∧ n.f3 ≤ 4095
  uid : 0 ≤ n.f4 ∧ n.f4 ≤ 1099511627776
  gid : 0 ≤ n.f5 ∧ n.f5 ≤ 1099511627776
  time : 0 ≤ n.f6 ∧ n.f6 ≤ 1099511627776
  kind : (n.f2 = 48 ∧ n.f1.size = 0 ∧ n.f7.size ≤ 4000) ∨ (n.f2 = 49 ∧ mayL n.f1.data.toList = true ∧ n.f7.size = 0 ∧ n.f3 = 0 ∧ n.f4 = 0 ∧ n.f5 = 0 ∧ n.f6 = 0) ∨ (n.f2 = 50 ∧ textB n.f1 = true ∧ n.f7.size = 0) ∨ (n.f2 = 53 ∧ n.f1.size = 0 ∧ n.f7.size = 0)
theorem oneB_facts {n : Nd} (h : oneB n = true) : OneFacts n := by
  unfold oneB oneKind at h
  simp only [Bool.and_eq_true, decide_eq_true_eq] at h
  obtain ⟨⟨⟨⟨⟨hk, hp⟩, hm⟩, hu⟩, hg⟩, ht⟩ := h
  refine ⟨hp, ⟨by omega, by omega⟩, ⟨by omega, by omega⟩, ⟨by omega, by omega⟩, ⟨by omega, by omega⟩, ?_⟩
  by_cases c1 : n.f2 = 48
  · rw [if_pos c1] at hk
    simp only [Bool.and_eq_true, decide_eq_true_eq] at hk
    exact .inl ⟨c1, hk.1, hk.2⟩
  rw [if_neg c1] at hk
  by_cases c2 : n.f2 = 49
  · rw [if_pos c2] at hk
    simp only [Bool.and_eq_true, decide_eq_true_eq, beq_iff_eq] at hk
    exact .inr (.inl ⟨c2, hk.2, hk.1.2.2.2.2, hk.1.1, hk.1.2.1, hk.1.2.2.1, hk.1.2.2.2.1⟩)
  rw [if_neg c2] at hk
  by_cases c3 : n.f2 = 50
  · rw [if_pos c3] at hk
    simp only [Bool.and_eq_true, decide_eq_true_eq] at hk
    exact .inr (.inr (.inl ⟨c3, hk.1, hk.2⟩))
  rw [if_neg c3] at hk
  by_cases c4 : n.f2 = 53
  · rw [if_pos c4] at hk
    simp only [Bool.and_eq_true, decide_eq_true_eq] at hk
    exact .inr (.inr (.inr ⟨c4, hk.1, hk.2⟩))
  rw [if_neg c4] at hk
  cases hk

end Go.Proofs.Ytoahjigjlgcjkaa.X
namespace Go.Proofs.Ytoahjigjlgcjkaa.X
open Go.RowKit Go.Proofs.YtoahjigjlgcjkaaW.PrintWords Go.Proofs.YtoahjigjlgcjkaaW.PrintLast Go.Proofs.YtoahjigjlgcjkaaW.PrintMore
attribute [local go_sem] max2_int min2_int max_two min_two
set_option linter.unusedVariables false
set_option linter.unusedSimpArgs false

open Go.Proofs.YtoahjigjlgcjkaaY
theorem putN_ok8 {n : Int} (h0 : 0 ≤ n) (h : n ≤ 1099511627776) : (putN n 8).2 = true := by
  unfold putN
  rw [if_neg (by omega)]
  show (if n.toNat / 8 ^ 7 = 0 then (octL n.toNat 7 ++ [0], true) else if n.toNat / 256 ^ 7 = 0 then (128 :: bytL n.toNat 7, true) else ([], false)).2 = true
  by_cases c : n.toNat / 8 ^ 7 = 0
  · rw [if_pos c]
  · rw [if_neg c, if_pos]
    rw [Nat.div_eq_of_lt]
    have e : (256 : Nat) ^ 7 = 72057594037927936 := by decide
    omega
theorem putN_ok12 {n : Int} (h0 : 0 ≤ n) (h : n ≤ 1099511627776) : (putN n 12).2 = true := by
  unfold putN
  rw [if_neg (by omega)]
  show (if n.toNat / 8 ^ 11 = 0 then (octL n.toNat 11 ++ [0], true) else if n.toNat / 256 ^ 11 = 0 then (128 :: bytL n.toNat 11, true) else ([], false)).2 = true
  by_cases c : n.toNat / 8 ^ 11 = 0
  · rw [if_pos c]
  · rw [if_neg c, if_pos]
    rw [Nat.div_eq_of_lt]
    have e : (256 : Nat) ^ 11 = 309485009821345068724781056 := by decide
    omega
theorem mayL_nought {l : List UInt8} (h : mayL l = true) : (0 : UInt8) ∉ l := by
  unfold mayL at h
  simp only [Bool.and_eq_true, Bool.not_eq_true'] at h
  intro hm
  rw [List.contains_iff_mem.2 hm] at h
  exact absurd h.2.2 (by decide)
theorem extract_nought {s : ByteArray} (h : (0 : UInt8) ∉ s.data.toList) (a b : Nat) : (0 : UInt8) ∉ (s.extract a b).data.toList := by
  rw [Lib.extract_data]
  exact fun hm => h (List.mem_of_mem_drop (List.mem_of_mem_take hm))
theorem shortB_nought {s : ByteArray} (h : (0 : UInt8) ∉ s.data.toList) : (0 : UInt8) ∉ (shortB s).data.toList := by
  unfold shortB
  by_cases c : 100 < s.size
  · rw [if_pos c]; exact extract_nought h _ _
  · rw [if_neg c]; exact h
theorem mayL_pos {s : ByteArray} (h : mayL s.data.toList = true) : 0 < s.size ∧ s.size ≤ 300 := by
  have h3 := mayL_size h
  rw [Array.length_toList] at h3
  refine ⟨?_, h3⟩
  rcases Nat.eq_zero_or_pos s.size with e | e
  · exact absurd (List.eq_nil_of_length_eq_zero (show s.data.toList.length = 0 by rw [Array.length_toList]; exact e)) (mayL_ne h)
  · exact e
structure NamesFacts (a0 a1 : ByteArray) : Prop where
  own : 0 < (namesB a0 a1).1.size ∧ (namesB a0 a1).1.size ≤ 100 ∧ (0 : UInt8) ∉ (namesB a0 a1).1.data.toList
  pre : (namesB a0 a1).2.1.size ≤ 155 ∧ (0 : UInt8) ∉ (namesB a0 a1).2.1.data.toList
  link : (namesB a0 a1).2.2.size ≤ 100 ∧ (0 : UInt8) ∉ (namesB a0 a1).2.2.data.toList
theorem needs_no {a0 a1 : ByteArray} (hm : mayL a0.data.toList = true) (h : (needsB a0 a1).1 = false) : (splitR a0).2.2 = true := by
  unfold needsB at h
  rw [hm] at h
  simpa using h
theorem names_good {a0 a1 : ByteArray} (hm : mayL a0.data.toList = true) (hl : (0 : UInt8) ∉ a1.data.toList) : NamesFacts a0 a1 := by
  have hz := mayL_pos hm
  have hn := mayL_nought hm
  have hs1 := shortB_size a1
  have nil0 : (0 : UInt8) ∉ (⟨#[]⟩ : ByteArray).data.toList := by simp
  cases hq : (needsB a0 a1).1 with
  | true =>
    have hsp := needs_split hq
    have hbig : 100 < a0.size := by
      unfold needsB at hq
      simp only [Bool.and_eq_true, Bool.not_eq_true'] at hq
      rcases (splitR_no hq.1).2 with h | h
      · rw [hm] at h; cases h
      · exact h
    have e : namesB a0 a1 = (shortB a0, ⟨#[]⟩, shortB a1) := by unfold namesB; rw [hq, if_pos rfl, hsp]; rfl
    have hsz : (shortB a0).size = 100 := by unfold shortB; rw [if_pos hbig, ByteArray.size_extract]; omega
    refine ⟨?_, ?_, ?_⟩
    · rw [e]; exact ⟨by show 0 < (shortB a0).size; omega, by show (shortB a0).size ≤ 100; omega, shortB_nought hn⟩
    · rw [e]; exact ⟨by show 0 ≤ 155; omega, nil0⟩
    · rw [e]; exact ⟨hs1, shortB_nought hl⟩
  | false =>
    have e : namesB a0 a1 = ((splitR a0).2.1, (splitR a0).1, shortB a1) := by unfold namesB; rw [hq, if_neg (by decide)]
    rcases splitR_yes (needs_no hm hq) with ⟨hle, hs⟩ | ⟨hgt, x, y, hs, hxy, hx, hy⟩
    · rw [hs] at e
      refine ⟨?_, ?_, ?_⟩
      · rw [e]; exact ⟨hz.1, hle, hn⟩
      · rw [e]; exact ⟨by show 0 ≤ 155; omega, nil0⟩
      · rw [e]; exact ⟨hs1, shortB_nought hl⟩
    · rw [hs] at e
      have hmm : mayL x.data.toList = true ∧ mayL y.data.toList = true := by
        rw [hxy, mayL_append, Bool.and_eq_true, Bool.and_eq_true] at hm
        exact hm.1
      refine ⟨?_, ?_, ?_⟩
      · rw [e]; exact ⟨(mayL_pos hmm.2).1, hy, mayL_nought hmm.2⟩
      · rw [e]; exact ⟨hx, mayL_nought hmm.1⟩
      · rw [e]; exact ⟨hs1, shortB_nought hl⟩
theorem OneFacts.link {n : Nd} (h : OneFacts n) : (0 : UInt8) ∉ n.f1.data.toList ∧ n.f1.size ≤ 300 := by
  have nil : n.f1.size = 0 → (0 : UInt8) ∉ n.f1.data.toList := fun e => by
    have : n.f1.data.toList = [] := List.eq_nil_of_length_eq_zero (by rw [Array.length_toList]; exact e)
    rw [this]; simp
  rcases h.kind with ⟨_, e, _⟩ | ⟨_, e, _⟩ | ⟨_, e, _⟩ | ⟨_, e, _⟩
  · exact ⟨nil e, by omega⟩
  · exact ⟨mayL_nought e, (mayL_pos e).2⟩
  · exact ⟨textB_nought e, (textB_size e).2⟩
  · exact ⟨nil e, by omega⟩
theorem OneFacts.data {n : Nd} (h : OneFacts n) : n.f7.size ≤ 4000 := by
  rcases h.kind with ⟨_, _, e⟩ | ⟨_, _, e, _⟩ | ⟨_, _, e⟩ | ⟨_, _, e⟩ <;> omega
/-- A node's header. -/
def entryHd (n : Nd) : Hd := ⟨(namesB n.f0 n.f1).1, (namesB n.f0 n.f1).2.1, (namesB n.f0 n.f1).2.2, n.f3, n.f4, n.f5, (n.f7.size : Int), n.f6, n.f2, 0, 0⟩
theorem wordOk_of {s : ByteArray} {w : Nat} (h : s.size ≤ w) (hn : (0 : UInt8) ∉ s.data.toList) : wordOk s (w : Int) = true := by
  unfold wordOk
  rw [(noNought_iff s).2 hn, decide_eq_true (by omega)]
  rfl
theorem entryHd_ok {n : Nd} (h : OneFacts n) : hdOk (entryHd n) = true := by
  obtain ⟨⟨o1, o2, o3⟩, ⟨p1, p2⟩, ⟨l1, l2⟩⟩ := names_good h.path h.link.1
  have hk : n.f2 = 48 ∨ n.f2 = 49 ∨ n.f2 = 50 ∨ n.f2 = 53 := by
    rcases h.kind with ⟨e, _⟩ | ⟨e, _⟩ | ⟨e, _⟩ | ⟨e, _⟩ <;> omega
  have h77 : (entryHd n).f8 ≠ 77 := by show n.f2 ≠ 77; omega
  have ht : typeOk n.f2 = true := by rcases hk with e | e | e | e <;> (rw [e]; decide +kernel)
  have hd := h.data
  have w0 : wordOk (namesB n.f0 n.f1).1 100 = true := wordOk_of o2 o3
  have w1 : wordOk (namesB n.f0 n.f1).2.1 155 = true := wordOk_of p1 p2
  have w2 : wordOk (namesB n.f0 n.f1).2.2 100 = true := wordOk_of l1 l2
  have n3 := putN_ok8 h.mode.1 (by have := h.mode; omega)
  have n4 := putN_ok8 h.uid.1 h.uid.2
  have n5 := putN_ok8 h.gid.1 h.gid.2
  have n6 := putN_ok12 (n := (n.f7.size : Int)) (by omega) (by omega)
  have n7 := putN_ok12 h.time.1 h.time.2
  have hne : ((namesB n.f0 n.f1).1.toList == ([] : List UInt8)) = false := by rw [nil_size]; exact decide_eq_false (by omega)
  unfold hdOk hdA hdWords hdNumbers
  rw [if_neg h77, if_neg h77, if_neg h77]
  show ((!((namesB n.f0 n.f1).1.toList == ([] : List UInt8)) && (typeOk n.f2 && true)) && ((wordOk (namesB n.f0 n.f1).1 100 && (wordOk (namesB n.f0 n.f1).2.2 100 && (wordOk (namesB n.f0 n.f1).2.1 155 && true))) && ((putN n.f3 8).2 && ((putN n.f4 8).2 && ((putN n.f5 8).2 && ((putN (n.f7.size : Int) 12).2 && ((putN n.f6 12).2 && true))))))) = true
  rw [hne, ht, w0, w1, w2, n3, n4, n5, n6, n7]
  rfl
theorem entryHd_in {n : Nd} (h : OneFacts n) : hdIn (entryHd n) := by
  have hk : n.f2 = 48 ∨ n.f2 = 49 ∨ n.f2 = 50 ∨ n.f2 = 53 := by
    rcases h.kind with ⟨e, _⟩ | ⟨e, _⟩ | ⟨e, _⟩ | ⟨e, _⟩ <;> omega
  have hd := h.data
  obtain ⟨hm, hu, hg, ht⟩ := And.intro h.mode (And.intro h.uid (And.intro h.gid h.time))
  refine ⟨⟨by show 0 ≤ n.f2; omega, by show n.f2 ≤ 255; omega⟩, by show n.f3 ≤ _; omega, by show n.f4 ≤ _; omega, by show n.f5 ≤ _; omega, by show (n.f7.size : Int) ≤ _; omega, by show n.f6 ≤ _; omega, by show (0 : Int) ≤ _; omega, by show (0 : Int) ≤ _; omega⟩
/-- A node's blocks. -/
def entryB (n : Nd) : List (List Int) := aheadB n.f0 n.f1 ++ (hdBlk (entryHd n) :: cutL n.f7)

end Go.Proofs.Ytoahjigjlgcjkaa.X
namespace Go.Proofs.Ytoahjigjlgcjkaa.X
open Go.RowKit Go.Proofs.YtoahjigjlgcjkaaW.PrintWords Go.Proofs.YtoahjigjlgcjkaaW.PrintLast Go.Proofs.YtoahjigjlgcjkaaW.PrintMore
attribute [local go_sem] max2_int min2_int max_two min_two
set_option linter.unusedVariables false
set_option linter.unusedSimpArgs false

open Go.Proofs.YtoahjigjlgcjkaaY
theorem padTo_inj {n : Nat} {s t : ByteArray} (hs : (0 : UInt8) ∉ s.data.toList) (ht : (0 : UInt8) ∉ t.data.toList) (h : padTo n s = padTo n t) : s = t := by
  have e : ∀ x : ByteArray, padTo n x ++ [0] = bytesOf x ++ 0 :: List.replicate (n - x.size) 0 := fun x => by
    unfold padTo
    rw [List.append_assoc, ← List.replicate_succ, List.replicate_succ']
  refine bytesOf_inj (upto_nought (x := List.replicate (n - s.size) 0) (y := List.replicate (n - t.size) 0) (bytesOf_nought hs) (bytesOf_nought ht) ?_)
  rw [← e s, ← e t, h]
theorem hdOk_noughts {h : Hd} (ho : hdOk h = true) : (0 : UInt8) ∉ h.f0.data.toList ∧ (0 : UInt8) ∉ h.f2.data.toList ∧ (h.f8 ≠ 77 → (0 : UInt8) ∉ h.f1.data.toList) ∧ (h.f8 = 77 → h.f1.size = 0) ∧ (h.f8 ≠ 77 → h.f9 = 0 ∧ h.f10 = 0) := by
  obtain ⟨hw, _⟩ := hdOk_parts ho
  unfold hdOk hdA at ho
  unfold hdWords at hw
  by_cases hM : h.f8 = 77
  · rw [if_pos hM] at hw
    rw [if_pos hM] at ho
    simp only [Bool.and_eq_true] at ho
    simp only [List.cons_append, List.nil_append, List.all_cons, List.all_nil, Bool.and_eq_true, wordOk] at hw
    exact ⟨(noNought_iff _).1 hw.1.2, (noNought_iff _).1 hw.2.1.2, fun hne => absurd hM hne, fun _ => (nil_size' _).1 (beq_iff_eq.1 ho.1.2.2), fun hne => absurd hM hne⟩
  · rw [if_neg hM] at hw
    rw [if_neg hM] at ho
    simp only [Bool.and_eq_true, beq_iff_eq] at ho
    simp only [List.cons_append, List.nil_append, List.all_cons, List.all_nil, Bool.and_eq_true, wordOk] at hw
    exact ⟨(noNought_iff _).1 hw.1.2, (noNought_iff _).1 hw.2.1.2, fun _ => (noNought_iff _).1 hw.2.2.1.2, fun he => absurd he hM, fun _ => ho.1.2.2⟩
theorem empty_of_size {s : ByteArray} (h : s.size = 0) : s = ⟨#[]⟩ := ByteArray.ext (Array.ext' (List.eq_nil_of_length_eq_zero (by rw [Array.length_toList]; exact h)))
theorem hdBlk_inj {g h : Hd} (og : hdOk g = true) (oh : hdOk h = true) (e : hdBlk g = hdBlk h) : g = h := by
  obtain ⟨a0, a2, a1, a1', a9⟩ := hdOk_noughts og
  obtain ⟨b0, b2, b1, b1', b9⟩ := hdOk_noughts oh
  have fg := hdOk_fit og
  have fh := hdOk_fit oh
  have e8 : g.f8 = h.f8 := by rw [← read_type og, ← read_type oh, e]
  have e0 : g.f0 = h.f0 := padTo_inj a0 b0 (by rw [← read_name og, ← read_name oh, e])
  have e2 : g.f2 = h.f2 := padTo_inj a2 b2 (by rw [← read_link og, ← read_link oh, e])
  have e3 : g.f3 = h.f3 := putN_inj fg.2.1.1 fh.2.1.1 (by rw [← read_mode og, ← read_mode oh, e])
  have e4 : g.f4 = h.f4 := putN_inj fg.2.1.2.1 fh.2.1.2.1 (by rw [← read_uid og, ← read_uid oh, e])
  have e5 : g.f5 = h.f5 := putN_inj fg.2.1.2.2.1 fh.2.1.2.2.1 (by rw [← read_gid og, ← read_gid oh, e])
  have e6 : g.f6 = h.f6 := putN_inj fg.2.1.2.2.2.1 fh.2.1.2.2.2.1 (by rw [← read_size og, ← read_size oh, e])
  have e7 : g.f7 = h.f7 := putN_inj fg.2.1.2.2.2.2 fh.2.1.2.2.2.2 (by rw [← read_time og, ← read_time oh, e])
  have e1 : g.f1 = h.f1 ∧ g.f9 = h.f9 ∧ g.f10 = h.f10 := by
    by_cases hM : g.f8 = 77
    · have hM' : h.f8 = 77 := by rw [← e8]; exact hM
      refine ⟨by rw [empty_of_size (a1' hM), empty_of_size (b1' hM')], ?_, ?_⟩
      · exact putN_inj (fg.2.2 hM).1 (fh.2.2 hM').1 (by rw [← read_off og hM, ← read_off oh hM', e])
      · exact putN_inj (fg.2.2 hM).2 (fh.2.2 hM').2 (by rw [← read_real og hM, ← read_real oh hM', e])
    · have hM' : h.f8 ≠ 77 := by rw [← e8]; exact hM
      refine ⟨padTo_inj (a1 hM) (b1 hM') (by rw [← read_prefix og hM, ← read_prefix oh hM', e]), ?_, ?_⟩
      · rw [(a9 hM).1, (b9 hM').1]
      · rw [(a9 hM).2, (b9 hM').2]
  cases g
  cases h
  simp only at e0 e1 e2 e3 e4 e5 e6 e7 e8
  obtain ⟨e1, e9, e10⟩ := e1
  subst e0 e1 e2 e3 e4 e5 e6 e7 e8 e9 e10
  rfl
theorem mayL_text {s : ByteArray} (h : mayL s.data.toList = true) : textB s = true := by
  have hz := mayL_pos h
  have hn := mayL_nought h
  unfold textB
  rw [decide_eq_true (by omega), decide_eq_true (by omega)]
  have : s.data.toList.contains 0 = false := by
    rw [← Bool.not_eq_true]
    exact fun hc => hn (List.contains_iff_mem.1 hc)
  rw [this]
  rfl
/-- What stands ahead of a node that may be: whole texts. -/
theorem aheadB_one {n : Nd} (h : OneFacts n) : aheadB n.f0 n.f1 = (if (needsB n.f0 n.f1).2 = true then longL 75 n.f1 else []) ++ (if (needsB n.f0 n.f1).1 = true then longL 76 n.f0 else []) := by
  unfold aheadB
  have e0 : longB 76 n.f0 = (longL 76 n.f0, true) := by rw [longB_is (.inr rfl), if_pos (mayL_text h.path)]
  rw [e0]
  congr 1
  by_cases c : (needsB n.f0 n.f1).2 = true
  · rw [if_pos c, if_pos c]
    have hbig : 100 < n.f1.size := by unfold needsB at c; simp at c; omega
    have ht : textB n.f1 = true := by
      rcases h.kind with ⟨_, e, _⟩ | ⟨_, e, _⟩ | ⟨_, e, _⟩ | ⟨_, e, _⟩
      · omega
      · exact mayL_text e
      · exact e
      · omega
    rw [longB_is (.inl rfl), if_pos ht]
  · rw [if_neg c, if_neg c]
/-- The type of the first block. -/
def typ (l : List (List Int)) : Int := (l.headD []).getD 156 0
theorem typ_long {kind : Int} {s : ByteArray} (hk : kind = 75 ∨ kind = 76) (hs : s.size ≤ 10000) (r : List (List Int)) : typ (longL kind s ++ r) = kind := by
  have h1 := longHead hk hs
  show ((headPut (longHd kind s)).1).getD 156 0 = kind
  rw [h1]
  exact read_type (longHd_ok hk hs)
theorem typ_main {n : Nd} (h : OneFacts n) (r : List (List Int)) : typ (hdBlk (entryHd n) :: r) = n.f2 := read_type (entryHd_ok h)
theorem longL_text_inj {kind : Int} {s t : ByteArray} (hs : textB s = true) (ht : textB t = true) (h : longL kind s = longL kind t) : s = t := by
  rw [longL_rows (textB_size hs).2, longL_rows (textB_size ht).2] at h
  simp only [List.cons.injEq] at h
  exact (padL_text (textB_nought hs) (textB_nought ht)).1 h.2.1
theorem split_back {a b : ByteArray} (ha : mayL a.data.toList = true) (hb : mayL b.data.toList = true) (sa : (splitR a).2.2 = true) (sb : (splitR b).2.2 = true) (h1 : (splitR a).1 = (splitR b).1) (h2 : (splitR a).2.1 = (splitR b).2.1) : a = b := by
  have app : ∀ {s x y : ByteArray}, mayL s.data.toList = true → s.data.toList = x.data.toList ++ 47 :: y.data.toList → x ≠ ⟨#[]⟩ := fun hm e he => by
    rw [e, mayL_append, Bool.and_eq_true, Bool.and_eq_true] at hm
    exact mayL_ne hm.1.1 (by rw [he])
  rcases splitR_yes sa with ⟨_, ea⟩ | ⟨_, x, y, ea, exy, _, _⟩
  · rcases splitR_yes sb with ⟨_, eb⟩ | ⟨_, x', y', eb, exy', _, _⟩
    · rw [ea, eb] at h2; exact h2
    · rw [ea, eb] at h1; exact absurd h1.symm (app hb exy')
  · rcases splitR_yes sb with ⟨_, eb⟩ | ⟨_, x', y', eb, exy', _, _⟩
    · rw [ea, eb] at h1; exact absurd h1 (app ha exy)
    · rw [ea, eb] at h1 h2
      simp only at h1 h2
      subst h1 h2
      exact ByteArray.ext (Array.ext' (by rw [exy, exy']))
theorem OneFacts.kinds {n : Nd} (h : OneFacts n) : n.f2 = 48 ∨ n.f2 = 49 ∨ n.f2 = 50 ∨ n.f2 = 53 := by
  rcases h.kind with ⟨e, _⟩ | ⟨e, _⟩ | ⟨e, _⟩ | ⟨e, _⟩ <;> omega
theorem OneFacts.linkText {n : Nd} (h : OneFacts n) (c : (needsB n.f0 n.f1).2 = true) : textB n.f1 = true := by
  have hbig : 100 < n.f1.size := by unfold needsB at c; simp at c; omega
  rcases h.kind with ⟨_, e, _⟩ | ⟨_, e, _⟩ | ⟨_, e, _⟩ | ⟨_, e, _⟩
  · omega
  · exact mayL_text e
  · exact e
  · omega
def tailB (n : Nd) : List (List Int) := (if (needsB n.f0 n.f1).1 = true then longL 76 n.f0 else []) ++ (hdBlk (entryHd n) :: cutL n.f7)
theorem entryB_tail {n : Nd} (h : OneFacts n) : entryB n = (if (needsB n.f0 n.f1).2 = true then longL 75 n.f1 else []) ++ tailB n := by
  unfold entryB tailB
  rw [aheadB_one h, List.append_assoc]
theorem typ_tail {n : Nd} (h : OneFacts n) : typ (tailB n) = if (needsB n.f0 n.f1).1 = true then 76 else n.f2 := by
  have hz := mayL_pos h.path
  unfold tailB
  by_cases c : (needsB n.f0 n.f1).1 = true
  · rw [if_pos c, if_pos c]
    exact typ_long (.inr rfl) (by omega) _
  · rw [if_neg c, if_neg c, List.nil_append]
    exact typ_main h _
theorem tail_inj {n m : Nd} (hn : OneFacts n) (hm : OneFacts m) (h : tailB n = tailB m) : (needsB n.f0 n.f1).1 = (needsB m.f0 m.f1).1 ∧ ((needsB n.f0 n.f1).1 = true → n.f0 = m.f0) ∧ hdBlk (entryHd n) = hdBlk (entryHd m) ∧ cutL n.f7 = cutL m.f7 := by
  have zn := mayL_pos hn.path
  have zm := mayL_pos hm.path
  have kn := hn.kinds
  have km := hm.kinds
  have ht := congrArg typ h
  rw [typ_tail hn, typ_tail hm] at ht
  cases cn : (needsB n.f0 n.f1).1 with
  | true =>
    cases cm : (needsB m.f0 m.f1).1 with
    | true =>
      unfold tailB at h
      rw [cn, cm, if_pos rfl, if_pos rfl] at h
      obtain ⟨h1, h2⟩ := List.append_inj h (by rw [longL_two zn.2, longL_two zm.2])
      obtain ⟨h3, h4⟩ := List.cons.inj h2
      exact ⟨rfl, fun _ => longL_text_inj (mayL_text hn.path) (mayL_text hm.path) h1, h3, h4⟩
    | false =>
      rw [cn, cm, if_pos rfl, if_neg (by decide)] at ht
      omega
  | false =>
    cases cm : (needsB m.f0 m.f1).1 with
    | true =>
      rw [cn, cm, if_neg (by decide), if_pos rfl] at ht
      omega
    | false =>
      unfold tailB at h
      rw [cn, cm, if_neg (by decide), if_neg (by decide), List.nil_append, List.nil_append] at h
      obtain ⟨h3, h4⟩ := List.cons.inj h
      exact ⟨rfl, (fun e => by cases e), h3, h4⟩
theorem entryB_inj {n m : Nd} (hn : OneFacts n) (hm : OneFacts m) (h : entryB n = entryB m) : n = m := by
  have zn := mayL_pos hn.path
  have zm := mayL_pos hm.path
  have ln := hn.link
  have lm := hm.link
  have kn := hn.kinds
  have km := hm.kinds
  rw [entryB_tail hn, entryB_tail hm] at h
  have key : (needsB n.f0 n.f1).2 = (needsB m.f0 m.f1).2 ∧ ((needsB n.f0 n.f1).2 = true → n.f1 = m.f1) ∧ tailB n = tailB m := by
    have ht := congrArg typ h
    have tn := typ_tail hn
    have tm := typ_tail hm
    have un : typ (tailB n) ≠ 75 := by rw [tn]; split <;> omega
    have um : typ (tailB m) ≠ 75 := by rw [tm]; split <;> omega
    cases cn : (needsB n.f0 n.f1).2 with
    | true =>
      cases cm : (needsB m.f0 m.f1).2 with
      | true =>
        rw [cn, cm, if_pos rfl, if_pos rfl] at h
        obtain ⟨h1, h2⟩ := List.append_inj h (by rw [longL_two ln.2, longL_two lm.2])
        exact ⟨rfl, fun _ => longL_text_inj (hn.linkText cn) (hm.linkText cm) h1, h2⟩
      | false =>
        rw [cn, cm, if_pos rfl, if_neg (by decide), List.nil_append, typ_long (.inl rfl) (by omega)] at ht
        exact absurd ht.symm um
    | false =>
      cases cm : (needsB m.f0 m.f1).2 with
      | true =>
        rw [cn, cm, if_neg (by decide), if_pos rfl, List.nil_append, typ_long (.inl rfl) (by omega)] at ht
        exact absurd ht un
      | false =>
        rw [cn, cm, if_neg (by decide), if_neg (by decide), List.nil_append, List.nil_append] at h
        exact ⟨rfl, (fun e => by cases e), h⟩
  obtain ⟨kl, hl, htail⟩ := key
  obtain ⟨kp, hp, hblk, hcut⟩ := tail_inj hn hm htail
  have hhd := hdBlk_inj (entryHd_ok hn) (entryHd_ok hm) hblk
  have e0 : (namesB n.f0 n.f1).1 = (namesB m.f0 m.f1).1 := congrArg (fun x : Hd => x.f0) hhd
  have e1 : (namesB n.f0 n.f1).2.1 = (namesB m.f0 m.f1).2.1 := congrArg (fun x : Hd => x.f1) hhd
  have e2 : (namesB n.f0 n.f1).2.2 = (namesB m.f0 m.f1).2.2 := congrArg (fun x : Hd => x.f2) hhd
  have e3 : n.f3 = m.f3 := congrArg (fun x : Hd => x.f3) hhd
  have e4 : n.f4 = m.f4 := congrArg (fun x : Hd => x.f4) hhd
  have e5 : n.f5 = m.f5 := congrArg (fun x : Hd => x.f5) hhd
  have e6 : (n.f7.size : Int) = (m.f7.size : Int) := congrArg (fun x : Hd => x.f6) hhd
  have e7 : n.f6 = m.f6 := congrArg (fun x : Hd => x.f7) hhd
  have e8 : n.f2 = m.f2 := congrArg (fun x : Hd => x.f8) hhd
  have f7 : n.f7 = m.f7 := by
    rw [cutL_eq, cutL_eq] at hcut
    exact bytesOf_inj (cutB_inj (by rw [bytesOf_length, bytesOf_length]; omega) hcut)
  have f1 : n.f1 = m.f1 := by
    cases c : (needsB n.f0 n.f1).2 with
    | true => exact hl c
    | false =>
      have cm : (needsB m.f0 m.f1).2 = false := by rw [← kl]; exact c
      have s1 : ¬ 100 < n.f1.size := by unfold needsB at c; simp at c; omega
      have s2 : ¬ 100 < m.f1.size := by unfold needsB at cm; simp at cm; omega
      have e : shortB n.f1 = shortB m.f1 := e2
      rwa [shortB_few s1, shortB_few s2] at e
  have f0 : n.f0 = m.f0 := by
    cases c : (needsB n.f0 n.f1).1 with
    | true => exact hp c
    | false =>
      have cm : (needsB m.f0 m.f1).1 = false := by rw [← kp]; exact c
      have g : ∀ {a b : ByteArray}, (needsB a b).1 = false → namesB a b = ((splitR a).2.1, (splitR a).1, shortB b) := fun hq => by unfold namesB; rw [hq, if_neg (by decide)]
      rw [g c, g cm] at e0 e1
      exact split_back hn.path hm.path (needs_no hn.path c) (needs_no hm.path cm) e1 e0
  cases n
  cases m
  simp only at f0 f1 e8 e3 e4 e5 e7 f7
  subst f0 f1 e8 e3 e4 e5 e7 f7
  rfl

end Go.Proofs.Ytoahjigjlgcjkaa.X
namespace Go.Proofs.Ytoahjigjlgcjkaa.X
open Go.RowKit Go.Proofs.YtoahjigjlgcjkaaW.PrintWords Go.Proofs.YtoahjigjlgcjkaaW.PrintLast Go.Proofs.YtoahjigjlgcjkaaW.PrintMore
attribute [local go_sem] max2_int min2_int max_two min_two
set_option linter.unusedVariables false
set_option linter.unusedSimpArgs false

open Go.Proofs.YtoahjigjlgcjkaaY
theorem entryHead_yes {n : Nd} (ho : oneB n = true) : entry_Head.f n.f0 n.f1 n.f2 n.f3 n.f4 n.f5 n.f6 n.f7 = some ((entryHd n).f0, (entryHd n).f1, (entryHd n).f2, (entryHd n).f3, (entryHd n).f4, (entryHd n).f5, (entryHd n).f6, (entryHd n).f7, (entryHd n).f8, (entryHd n).f9, (entryHd n).f10, true) := by
  have h := oneB_facts ho
  have hz := mayL_pos h.path
  have hl := h.link
  unfold entry_Head.f entry_entry_head.f
  rw [one_b n (by omega) (by omega), ho, names_f n.f0 n.f1 n.f2 n.f3 n.f4 n.f5 n.f6 n.f7 (by omega)]
  rfl
theorem entryHead_no {n : Nd} (h0 : n.f0.size ≤ 10000) (h1 : n.f1.size ≤ 10000) (ho : oneB n = false) : entry_Head.f n.f0 n.f1 n.f2 n.f3 n.f4 n.f5 n.f6 n.f7 = some ((⟨#[]⟩ : ByteArray), (⟨#[]⟩ : ByteArray), (⟨#[]⟩ : ByteArray), 0, 0, 0, 0, 0, 0, 0, 0, false) := by
  unfold entry_Head.f
  rw [one_b n (by omega) (by omega), ho]
  rfl
theorem headPut_yes {h : Hd} (ho : hdOk h = true) (hi : hdIn h) : head_Put.f h.f0 h.f1 h.f2 h.f3 h.f4 h.f5 h.f6 h.f7 h.f8 h.f9 h.f10 = some (hdBlk h, true) := by
  unfold head_Put.f
  have hi' : hdIn ⟨h.f0, h.f1, h.f2, h.f3, h.f4, h.f5, h.f6, h.f7, h.f8, h.f9, h.f10⟩ := hi
  rw [if_pos hi']
  unfold headPut
  have ho' : hdOk ⟨h.f0, h.f1, h.f2, h.f3, h.f4, h.f5, h.f6, h.f7, h.f8, h.f9, h.f10⟩ = true := ho
  rw [if_pos ho']
theorem cut_f {s : ByteArray} (h : s.size ≤ 1000000) : block_Cut.f s = some (cutL s) := by unfold block_Cut.f; rw [if_pos h]
theorem cutL_length (s : ByteArray) : (cutL s).length = manyB s.size := by rw [cutL_eq, (cutB_length _ _ rfl).1, bytesOf_length]
theorem aheadB_len {a0 a1 : ByteArray} (h0 : a0.size ≤ 10000) (h1 : a1.size ≤ 10000) : (aheadB a0 a1).length ≤ 2000 := by
  have g1 := longB_length (kind := 75) h1
  have g0 := longB_length (kind := 76) h0
  unfold aheadB
  have e : ([] : List (List Int)).length = 0 := rfl
  rw [List.length_append]
  split <;> split <;> (try rw [e]) <;> omega
theorem entryPut_yes {n : Nd} (ho : oneB n = true) : entry_Put.f n.f0 n.f1 n.f2 n.f3 n.f4 n.f5 n.f6 n.f7 = some (entryB n, true) := by
  have h := oneB_facts ho
  have hz := mayL_pos h.path
  have hl := h.link
  have hd := h.data
  unfold entry_Put.f
  rw [entryHead_yes ho]
  simp only [Option.bind_some]
  rw [if_pos trivial, headPut_yes (entryHd_ok h) (entryHd_in h), ahead_f n.f0 n.f1 n.f2 n.f3 n.f4 n.f5 n.f6 n.f7 (by omega) (by omega), cut_f (by omega)]
  simp only [Option.bind_some]
  rw [if_pos]
  · rfl
  · have := aheadB_len (a0 := n.f0) (a1 := n.f1) (by omega) (by omega)
    rw [cutL_length]
    unfold manyB
    omega
theorem entryPut_no {n : Nd} (h0 : n.f0.size ≤ 10000) (h1 : n.f1.size ≤ 10000) (ho : oneB n = false) : entry_Put.f n.f0 n.f1 n.f2 n.f3 n.f4 n.f5 n.f6 n.f7 = some ([], false) := by
  unfold entry_Put.f
  rw [entryHead_no h0 h1 ho]
  rfl
/-- What Put tells. -/
def entryP (n : Nd) : List (List Int) × Bool := if oneB n = true then (entryB n, true) else ([], false)
theorem entryPut_f {n : Nd} (h0 : n.f0.size ≤ 10000) (h1 : n.f1.size ≤ 10000) : entry_Put.f n.f0 n.f1 n.f2 n.f3 n.f4 n.f5 n.f6 n.f7 = some (entryP n) := by
  unfold entryP
  cases ho : oneB n with
  | true => rw [entryPut_yes ho]; rfl
  | false => rw [entryPut_no h0 h1 ho]; rfl
theorem entryB_length {n : Nd} (h : OneFacts n) : (entryB n).length = (aheadB n.f0 n.f1).length + 1 + manyB n.f7.size := by
  unfold entryB
  rw [List.length_append, List.length_cons, cutL_length]
  omega
theorem aheadB_count {n : Nd} (h : OneFacts n) : (aheadB n.f0 n.f1).length = (if 100 < n.f1.size then 2 else 0) + (if (needsB n.f0 n.f1).1 = true then 2 else 0) := by
  have hz := mayL_pos h.path
  have hl := h.link
  rw [aheadB_one h, List.length_append]
  have e : (needsB n.f0 n.f1).2 = decide (100 < n.f1.size) := by
    show decide ((n.f1.size : Int) > 100) = _
    exact decide_eq_decide.2 ⟨fun _ => by omega, fun _ => by omega⟩
  rw [e]
  by_cases c1 : 100 < n.f1.size
  · rw [if_pos c1, if_pos (decide_eq_true c1), longL_two hl.2]
    by_cases c2 : (needsB n.f0 n.f1).1 = true
    · rw [if_pos c2, if_pos c2, longL_two hz.2]
    · rw [if_neg c2, if_neg c2]; rfl
  · rw [if_neg c1, if_neg (by rw [decide_eq_false c1]; decide)]
    by_cases c2 : (needsB n.f0 n.f1).1 = true
    · rw [if_pos c2, if_pos c2, longL_two hz.2]; rfl
    · rw [if_neg c2, if_neg c2]; rfl
theorem needs_big {n : Nd} (h : OneFacts n) (c : (needsB n.f0 n.f1).1 = true) : 100 < n.f0.size := by
  unfold needsB at c
  simp only [Bool.and_eq_true, Bool.not_eq_true'] at c
  rcases (splitR_no c.1).2 with e | e
  · rw [h.path] at e; cases e
  · exact e

end Go.Proofs.Ytoahjigjlgcjkaa.X
namespace Go.Proofs.Ytoahjigjlgcjkaa.X
open Go.RowKit Go.Proofs.YtoahjigjlgcjkaaW.PrintWords Go.Proofs.YtoahjigjlgcjkaaW.PrintLast Go.Proofs.YtoahjigjlgcjkaaW.PrintMore
attribute [local go_sem] max2_int min2_int max_two min_two
set_option linter.unusedVariables false
set_option linter.unusedSimpArgs false

open Go.Proofs.YtoahjigjlgcjkaaY
theorem str_bytesOf (s : ByteArray) : strOfNums (bytesOf s) = s := bytesOf_inj (bytes_of_nums _ (byteOk_bytesOf s))
theorem guess_hdBlk {h : Hd} (ho : hdOk h = true) (hi : hdIn h) : guess (hdBlk h) = h := by
  obtain ⟨_, i3, i4, i5, i6, i7, i9, i10⟩ := hi
  obtain ⟨a0, a2, a1, a1', a9⟩ := hdOk_noughts ho
  have fh := hdOk_fit ho
  have t := read_type ho
  unfold guess
  rw [t, read_name ho, read_link ho, read_mode ho, read_uid ho, read_gid ho, read_size ho, read_time ho,
    getN_putN fh.2.1.1 i3, getN_putN fh.2.1.2.1 i4, getN_putN fh.2.1.2.2.1 i5, getN_putN fh.2.1.2.2.2.1 i6, getN_putN fh.2.1.2.2.2.2 i7,
    uptoL_padTo (bytesOf_nought a0), uptoL_padTo (bytesOf_nought a2), str_bytesOf, str_bytesOf]
  by_cases hM : h.f8 = 77
  · rw [if_pos hM, if_pos hM, if_pos hM, read_off ho hM, read_real ho hM, getN_putN (fh.2.2 hM).1 i9, getN_putN (fh.2.2 hM).2 i10, ← empty_of_size (a1' hM)]
  · rw [if_neg hM, if_neg hM, if_neg hM, read_prefix ho hM, uptoL_padTo (bytesOf_nought (a1 hM)), str_bytesOf, ← (a9 hM).1]
    have e10 : h.f9 = h.f10 := by rw [(a9 hM).1, (a9 hM).2]
    cases h
    simp only at e10 ⊢
    rw [← e10]
theorem hdOk_type {h : Hd} (ho : hdOk h = true) : typeOk h.f8 = true := by
  unfold hdOk hdA at ho
  simp only [Bool.and_eq_true] at ho
  exact ho.1.2.1
theorem headGet_put {h : Hd} (ho : hdOk h = true) (hi : hdIn h) : headGet (hdBlk h) = (h, 0) := by
  have hl := hdBlk_length ho
  have hne : h.f8 ≠ 0 := by
    intro e
    have := hdOk_type ho
    rw [e] at this
    exact absurd this (by decide +kernel)
  have hz : ¬ (hdBlk h).all (fun c => c == 0) = true := by
    intro hz
    have h1 := List.all_eq_true.1 hz ((hdBlk h)[156]'(by omega)) (List.getElem_mem _)
    have t := read_type ho
    rw [List.getD_eq_getElem?_getD, List.getElem?_eq_getElem (by omega)] at t
    simp only [Option.getD_some] at t
    rw [t] at h1
    exact hne (by simpa using h1)
  unfold headGet
  rw [if_neg (by omega), if_neg hz, if_neg (by rw [hdBlk_sign ho]; simp), guess_hdBlk ho hi]
  unfold headPut
  rw [if_pos ho, if_pos ⟨rfl, rfl⟩]
/-- What is got was put. -/
theorem headGet_yes {b : List Int} {h : Hd} (hg : headGet b = (h, 0)) : hdOk h = true ∧ hdBlk h = b := by
  unfold headGet at hg
  by_cases c1 : b.length ≠ 512
  · rw [if_pos c1] at hg; cases hg
  rw [if_neg c1] at hg
  by_cases c2 : b.all (fun c => c == 0) = true
  · rw [if_pos c2] at hg; cases hg
  rw [if_neg c2] at hg
  by_cases c3 : sub b 148 8 ≠ signL (sumL b 0)
  · rw [if_pos c3] at hg; cases hg
  rw [if_neg c3] at hg
  by_cases c4 : (headPut (guess b)).2 = true ∧ (headPut (guess b)).1 = b
  · rw [if_pos c4] at hg
    obtain ⟨rfl, _⟩ := Prod.mk.inj hg
    obtain ⟨c5, c6⟩ := c4
    unfold headPut at c5 c6
    by_cases c7 : hdOk (guess b) = true
    · rw [if_pos c7] at c6; exact ⟨c7, c6⟩
    · rw [if_neg c7] at c5; cases c5
  · rw [if_neg c4] at hg; cases hg

end Go.Proofs.Ytoahjigjlgcjkaa.X
namespace Go.Proofs.Ytoahjigjlgcjkaa.X
open Go.RowKit Go.Proofs.YtoahjigjlgcjkaaW.PrintWords Go.Proofs.YtoahjigjlgcjkaaW.PrintLast Go.Proofs.YtoahjigjlgcjkaaW.PrintMore
attribute [local go_sem] max2_int min2_int max_two min_two
set_option linter.unusedVariables false
set_option linter.unusedSimpArgs false

open Go.Proofs.YtoahjigjlgcjkaaY
theorem headGet_long {kind : Int} {s : ByteArray} (hk : kind = 75 ∨ kind = 76) (hs : s.size ≤ 10000) : headGet (hdBlk (longHd kind s)) = (longHd kind s, 0) :=
  headGet_put (longHd_ok hk hs) (longHd_in (by omega) hs)
theorem headGet_entry {n : Nd} (h : OneFacts n) : headGet (hdBlk (entryHd n)) = (entryHd n, 0) := headGet_put (entryHd_ok h) (entryHd_in h)
theorem longL_512 {kind : Int} {s : ByteArray} (hk : kind = 75 ∨ kind = 76) (hs : s.size ≤ 10000) : ∀ x ∈ longL kind s, x.length = 512 := by
  intro x hx
  unfold longL at hx
  rcases List.mem_cons.1 hx with rfl | hx
  · rw [longHead hk hs]; exact hdBlk_length (longHd_ok hk hs)
  · rw [cutL_eq] at hx; exact (cutB_length _ _ rfl).2 x hx
theorem entryB_512 {n : Nd} (h : OneFacts n) : ∀ x ∈ entryB n, x.length = 512 := by
  have hz := mayL_pos h.path
  have hl := h.link
  intro x hx
  unfold entryB at hx
  rw [aheadB_one h] at hx
  rcases List.mem_append.1 hx with hx | hx
  · rcases List.mem_append.1 hx with hx | hx
    · by_cases c : (needsB n.f0 n.f1).2 = true
      · rw [if_pos c] at hx; exact longL_512 (.inl rfl) (by omega) x hx
      · rw [if_neg c] at hx; cases hx
    · by_cases c : (needsB n.f0 n.f1).1 = true
      · rw [if_pos c] at hx; exact longL_512 (.inr rfl) (by omega) x hx
      · rw [if_neg c] at hx; cases hx
  · rcases List.mem_cons.1 hx with rfl | hx
    · exact hdBlk_length (entryHd_ok h)
    · rw [cutL_eq] at hx; exact (cutB_length _ _ rfl).2 x hx
/-- The first block is a header's. -/
theorem entry_first {n : Nd} (h : OneFacts n) : ∃ x r hd, entryB n = x :: r ∧ headGet x = (hd, 0) ∧
    (((aheadB n.f0 n.f1).length = 0 ∧ hd.f8 = n.f2) ∨ ((aheadB n.f0 n.f1).length ≠ 0 ∧ 100 < n.f1.size ∧ hd.f8 = 75) ∨ ((aheadB n.f0 n.f1).length ≠ 0 ∧ ¬ 100 < n.f1.size ∧ hd.f8 = 76)) := by
  have hz := mayL_pos h.path
  have hl := h.link
  have e2 : (needsB n.f0 n.f1).2 = decide (100 < n.f1.size) := by
    show decide ((n.f1.size : Int) > 100) = _
    exact decide_eq_decide.2 ⟨fun _ => by omega, fun _ => by omega⟩
  unfold entryB
  rw [aheadB_one h, e2]
  by_cases c2 : 100 < n.f1.size
  · rw [if_pos (decide_eq_true c2), longL_rows hl.2, longHead (.inl rfl) (by omega)]
    exact ⟨_, _, longHd 75 n.f1, rfl, headGet_long (.inl rfl) (by omega), .inr (.inl ⟨by simp, c2, rfl⟩)⟩
  · rw [if_neg (by rw [decide_eq_false c2]; decide), List.nil_append]
    by_cases c1 : (needsB n.f0 n.f1).1 = true
    · rw [if_pos c1, longL_rows hz.2, longHead (.inr rfl) (by omega)]
      exact ⟨_, _, longHd 76 n.f0, rfl, headGet_long (.inr rfl) (by omega), .inr (.inr ⟨by simp, c2, rfl⟩)⟩
    · rw [if_neg c1]
      exact ⟨_, _, entryHd n, rfl, headGet_entry h, .inl ⟨rfl, rfl⟩⟩

end Go.Proofs.Ytoahjigjlgcjkaa.X
