import Derived.Test.YtpedagpcblnnhaaGreatXK
import Derived.Test.YtpedagpcblnnhaaGreatXGtree
import Derived.Test.YtpedagpcblnnhaaGreatYAll
import Derived.Test.YtpedagpcblnnhaaGreatPGA
import Derived.Test.YtpedagpcblnnhaaGreatXGlong
import Derived.Test.YtpedagpcblnnhaaGreatXGhead
import Derived.Test.YtpedagpcblnnhaaGreatXGentry
import Derived.Test.YtpedagpcblnnhaaGreatXGblock
import Derived.Test.YtpedagpcblnnhaaGreatXGnum
import Derived.Test.YtpedagpcblnnhaaGreatP02p
import Derived.Test.YtpedagpcblnnhaaGreatP04g
import Derived.Lib.IndexAny
namespace Go.Proofs.YtpedagpcblnnhaaGreat.X
open Go.RowKit Go.Proofs.YtpedagpcblnnhaaGreatW.PrintWords Go.Proofs.YtpedagpcblnnhaaGreatW.PrintLast Go.Proofs.YtpedagpcblnnhaaGreatW.PrintMore
attribute [local go_sem] max2_int min2_int max_two min_two
set_option linter.unusedVariables false
set_option linter.unusedSimpArgs false
section
open Go.Proofs.YtpedagpcblnnhaaGreatY
theorem nil_size (s : ByteArray) : (s.toList == ([] : List UInt8)) = decide (s.size = 0) := by
  rw [Bool.eq_iff_iff, beq_iff_eq, decide_eq_true_eq, Lib.toList_data]
  have h : s.data.toList.length = s.size := Array.length_toList
  constructor
  · intro e; rw [e] at h; simpa using h.symm
  · intro e; rw [e] at h; exact List.eq_nil_of_length_eq_zero h
theorem nil_size' (s : ByteArray) : s.toList = ([] : List UInt8) ↔ s.size = 0 := by
  have := nil_size s
  rw [Bool.eq_iff_iff, beq_iff_eq, decide_eq_true_eq] at this
  exact this
def oneKind (n : Nd) : Bool :=
  if n.f2 = 48 then decide (n.f1.size = 0) && decide (n.f7.size ≤ 4000)
  else if n.f2 = 49 then (n.f3 == 0 && (n.f4 == 0 && (n.f5 == 0 && (n.f6 == 0 && decide (n.f7.size = 0))))) && mayL n.f1.data.toList
  else if n.f2 = 50 then textB n.f1 && decide (n.f7.size = 0)
  else if n.f2 = 53 then decide (n.f1.size = 0) && decide (n.f7.size = 0)
  else false
def oneB (n : Nd) : Bool := oneKind n && mayL n.f0.data.toList && (decide (n.f3 ≥ 0) && decide (n.f3 ≤ 4095)) && (decide (n.f4 ≥ 0) && decide (n.f4 ≤ 1099511627776)) && (decide (n.f5 ≥ 0) && decide (n.f5 ≤ 1099511627776)) && (decide (n.f6 ≥ 0) && decide (n.f6 ≤ 1099511627776))
theorem ask_b (n : Nd) (h1 : n.f1.size ≤ 9223372036854775807) : tree_One.ask n.f0 n.f1 n.f2 n.f3 n.f4 n.f5 n.f6 n.f7 = some (oneKind n) := by
  unfold tree_One.ask oneKind
  by_cases c1 : n.f2 = 48
  · rw [if_pos c1, if_pos c1]
    unfold tree_kinds_1.f
    by_cases c : n.f1.size = 0
    · rw [if_pos ((nil_size' _).2 c), decide_eq_true c, Bool.true_and]
      congr 2
      exact propext ⟨fun _ => by omega, fun _ => by omega⟩
    · rw [if_neg (fun e => c ((nil_size' _).1 e)), decide_eq_false c]; rfl
  rw [if_neg c1, if_neg c1]
  by_cases c2 : n.f2 = 49
  · rw [if_pos c2, if_pos c2]
    unfold tree_kinds_2.f tree_kinds_2.ask
    rw [nil_size]
    cases (n.f3 == 0 && (n.f4 == 0 && (n.f5 == 0 && (n.f6 == 0 && decide (n.f7.size = 0))))) with
    | true => rw [if_pos rfl, may_f h1, Bool.true_and]
    | false => rfl
  rw [if_neg c2, if_neg c2]
  by_cases c3 : n.f2 = 50
  · rw [if_pos c3, if_pos c3]
    unfold tree_kinds_3.f
    rw [long_text, nil_size]
    cases textB n.f1 <;> rfl
  rw [if_neg c3, if_neg c3]
  by_cases c4 : n.f2 = 53
  · rw [if_pos c4, if_pos c4]
    unfold tree_kinds_4.f
    rw [nil_size]
    by_cases c : n.f1.size = 0
    · rw [if_pos ((nil_size' _).2 c), decide_eq_true c, Bool.true_and]
    · rw [if_neg (fun e => c ((nil_size' _).1 e)), decide_eq_false c]; rfl
  rw [if_neg c4, if_neg c4]
theorem one_b (n : Nd) (h0 : n.f0.size ≤ 9223372036854775807) (h1 : n.f1.size ≤ 9223372036854775807) : tree_One.f n.f0 n.f1 n.f2 n.f3 n.f4 n.f5 n.f6 n.f7 = some (oneB n) := by
  unfold tree_One.f oneB
  rw [ask_b n h1, may_f h0]
  rfl
structure OneFacts (n : Nd) : Prop where
  path : mayL n.f0.data.toList = true
  mode : 0 ≤ n.f3 ∧ n.f3 ≤ 4095
  uid : 0 ≤ n.f4 ∧ n.f4 ≤ 1099511627776
  gid : 0 ≤ n.f5 ∧ n.f5 ≤ 1099511627776
  time : 0 ≤ n.f6 ∧ n.f6 ≤ 1099511627776
  kind : (n.f2 = 48 ∧ n.f1.size = 0 ∧ n.f7.size ≤ 4000) ∨ (n.f2 = 49 ∧ mayL n.f1.data.toList = true ∧ n.f7.size = 0 ∧ n.f3 = 0 ∧ n.f4 = 0 ∧ n.f5 = 0 ∧ n.f6 = 0) ∨ (n.f2 = 50 ∧ textB n.f1 = true ∧ n.f7.size = 0) ∨ (n.f2 = 53 ∧ n.f1.size = 0 ∧ n.f7.size = 0)
theorem oneB_facts {n : Nd} (h : oneB n = true) : OneFacts n := by
  unfold oneB oneKind at h
  simp only [Bool.and_eq_true, decide_eq_true_eq] at h
  obtain ⟨⟨⟨⟨⟨hk, hp⟩, hm⟩, hu⟩, hg⟩, ht⟩ := h
  refine ⟨hp, ⟨by omega, by omega⟩, ⟨by omega, by omega⟩, ⟨by omega, by omega⟩, ⟨by omega, by omega⟩, ?_⟩
  by_cases c1 : n.f2 = 48
  · rw [if_pos c1] at hk
    simp only [Bool.and_eq_true, decide_eq_true_eq] at hk
    exact .inl ⟨c1, hk.1, hk.2⟩
  rw [if_neg c1] at hk
  by_cases c2 : n.f2 = 49
  · rw [if_pos c2] at hk
    simp only [Bool.and_eq_true, decide_eq_true_eq, beq_iff_eq] at hk
    exact .inr (.inl ⟨c2, hk.2, hk.1.2.2.2.2, hk.1.1, hk.1.2.1, hk.1.2.2.1, hk.1.2.2.2.1⟩)
  rw [if_neg c2] at hk
  by_cases c3 : n.f2 = 50
  · rw [if_pos c3] at hk
    simp only [Bool.and_eq_true, decide_eq_true_eq] at hk
    exact .inr (.inr (.inl ⟨c3, hk.1, hk.2⟩))
  rw [if_neg c3] at hk
  by_cases c4 : n.f2 = 53
  · rw [if_pos c4] at hk
    simp only [Bool.and_eq_true, decide_eq_true_eq] at hk
    exact .inr (.inr (.inr ⟨c4, hk.1, hk.2⟩))
  rw [if_neg c4] at hk
  cases hk
end
section
open Go.Proofs.YtpedagpcblnnhaaGreatY
theorem putN_ok8 {n : Int} (h0 : 0 ≤ n) (h : n ≤ 1099511627776) : (putN n 8).2 = true := by
  unfold putN
  rw [if_neg (by omega)]
  show (if n.toNat / 8 ^ 7 = 0 then (octL n.toNat 7 ++ [0], true) else if n.toNat / 256 ^ 7 = 0 then (128 :: bytL n.toNat 7, true) else ([], false)).2 = true
  by_cases c : n.toNat / 8 ^ 7 = 0
  · rw [if_pos c]
  · rw [if_neg c, if_pos]
    rw [Nat.div_eq_of_lt]
    have e : (256 : Nat) ^ 7 = 72057594037927936 := by decide
    omega
theorem putN_ok12 {n : Int} (h0 : 0 ≤ n) (h : n ≤ 1099511627776) : (putN n 12).2 = true := by
  unfold putN
  rw [if_neg (by omega)]
  show (if n.toNat / 8 ^ 11 = 0 then (octL n.toNat 11 ++ [0], true) else if n.toNat / 256 ^ 11 = 0 then (128 :: bytL n.toNat 11, true) else ([], false)).2 = true
  by_cases c : n.toNat / 8 ^ 11 = 0
  · rw [if_pos c]
  · rw [if_neg c, if_pos]
    rw [Nat.div_eq_of_lt]
    have e : (256 : Nat) ^ 11 = 309485009821345068724781056 := by decide
    omega
theorem mayL_nought {l : List UInt8} (h : mayL l = true) : (0 : UInt8) ∉ l := by
  unfold mayL at h
  simp only [Bool.and_eq_true, Bool.not_eq_true'] at h
  intro hm
  rw [List.contains_iff_mem.2 hm] at h
  exact absurd h.2.2 (by decide)
theorem extract_nought {s : ByteArray} (h : (0 : UInt8) ∉ s.data.toList) (a b : Nat) : (0 : UInt8) ∉ (s.extract a b).data.toList := by
  rw [Lib.extract_data]
  exact fun hm => h (List.mem_of_mem_drop (List.mem_of_mem_take hm))
theorem shortB_nought {s : ByteArray} (h : (0 : UInt8) ∉ s.data.toList) : (0 : UInt8) ∉ (shortB s).data.toList := by
  unfold shortB
  by_cases c : 100 < s.size
  · rw [if_pos c]; exact extract_nought h _ _
  · rw [if_neg c]; exact h
theorem mayL_pos {s : ByteArray} (h : mayL s.data.toList = true) : 0 < s.size ∧ s.size ≤ 300 := by
  have h3 := mayL_size h
  rw [Array.length_toList] at h3
  refine ⟨?_, h3⟩
  rcases Nat.eq_zero_or_pos s.size with e | e
  · exact absurd (List.eq_nil_of_length_eq_zero (show s.data.toList.length = 0 by rw [Array.length_toList]; exact e)) (mayL_ne h)
  · exact e
structure NamesFacts (a0 a1 : ByteArray) : Prop where
  own : 0 < (namesB a0 a1).1.size ∧ (namesB a0 a1).1.size ≤ 100 ∧ (0 : UInt8) ∉ (namesB a0 a1).1.data.toList
  pre : (namesB a0 a1).2.1.size ≤ 155 ∧ (0 : UInt8) ∉ (namesB a0 a1).2.1.data.toList
  link : (namesB a0 a1).2.2.size ≤ 100 ∧ (0 : UInt8) ∉ (namesB a0 a1).2.2.data.toList
theorem needs_no {a0 a1 : ByteArray} (hm : mayL a0.data.toList = true) (h : (needsB a0 a1).1 = false) : (splitR a0).2.2 = true := by
  unfold needsB at h
  rw [hm] at h
  simpa using h
theorem names_good {a0 a1 : ByteArray} (hm : mayL a0.data.toList = true) (hl : (0 : UInt8) ∉ a1.data.toList) : NamesFacts a0 a1 := by
  have hz := mayL_pos hm
  have hn := mayL_nought hm
  have hs1 := shortB_size a1
  have nil0 : (0 : UInt8) ∉ (⟨#[]⟩ : ByteArray).data.toList := by simp
  cases hq : (needsB a0 a1).1 with
  | true =>
    have hsp := needs_split hq
    have hbig : 100 < a0.size := by
      unfold needsB at hq
      simp only [Bool.and_eq_true, Bool.not_eq_true'] at hq
      rcases (splitR_no hq.1).2 with h | h
      · rw [hm] at h; cases h
      · exact h
    have e : namesB a0 a1 = (shortB a0, ⟨#[]⟩, shortB a1) := by unfold namesB; rw [hq, if_pos rfl, hsp]; rfl
    have hsz : (shortB a0).size = 100 := by unfold shortB; rw [if_pos hbig, ByteArray.size_extract]; omega
    refine ⟨?_, ?_, ?_⟩
    · rw [e]; exact ⟨by show 0 < (shortB a0).size; omega, by show (shortB a0).size ≤ 100; omega, shortB_nought hn⟩
    · rw [e]; exact ⟨by show 0 ≤ 155; omega, nil0⟩
    · rw [e]; exact ⟨hs1, shortB_nought hl⟩
  | false =>
    have e : namesB a0 a1 = ((splitR a0).2.1, (splitR a0).1, shortB a1) := by unfold namesB; rw [hq, if_neg (by decide)]
    rcases splitR_yes (needs_no hm hq) with ⟨hle, hs⟩ | ⟨hgt, x, y, hs, hxy, hx, hy⟩
    · rw [hs] at e
      refine ⟨?_, ?_, ?_⟩
      · rw [e]; exact ⟨hz.1, hle, hn⟩
      · rw [e]; exact ⟨by show 0 ≤ 155; omega, nil0⟩
      · rw [e]; exact ⟨hs1, shortB_nought hl⟩
    · rw [hs] at e
      have hmm : mayL x.data.toList = true ∧ mayL y.data.toList = true := by
        rw [hxy, mayL_append, Bool.and_eq_true, Bool.and_eq_true] at hm
        exact hm.1
      refine ⟨?_, ?_, ?_⟩
      · rw [e]; exact ⟨(mayL_pos hmm.2).1, hy, mayL_nought hmm.2⟩
      · rw [e]; exact ⟨hx, mayL_nought hmm.1⟩
      · rw [e]; exact ⟨hs1, shortB_nought hl⟩
theorem OneFacts.link {n : Nd} (h : OneFacts n) : (0 : UInt8) ∉ n.f1.data.toList ∧ n.f1.size ≤ 300 := by
  have nil : n.f1.size = 0 → (0 : UInt8) ∉ n.f1.data.toList := fun e => by
    have : n.f1.data.toList = [] := List.eq_nil_of_length_eq_zero (by rw [Array.length_toList]; exact e)
    rw [this]; simp
  rcases h.kind with ⟨_, e, _⟩ | ⟨_, e, _⟩ | ⟨_, e, _⟩ | ⟨_, e, _⟩
  · exact ⟨nil e, by omega⟩
  · exact ⟨mayL_nought e, (mayL_pos e).2⟩
  · exact ⟨textB_nought e, (textB_size e).2⟩
  · exact ⟨nil e, by omega⟩
theorem OneFacts.data {n : Nd} (h : OneFacts n) : n.f7.size ≤ 4000 := by
  rcases h.kind with ⟨_, _, e⟩ | ⟨_, _, e, _⟩ | ⟨_, _, e⟩ | ⟨_, _, e⟩ <;> omega
def entryHd (n : Nd) : Hd := ⟨(namesB n.f0 n.f1).1, (namesB n.f0 n.f1).2.1, (namesB n.f0 n.f1).2.2, n.f3, n.f4, n.f5, (n.f7.size : Int), n.f6, n.f2, 0, 0⟩
theorem wordOk_of {s : ByteArray} {w : Nat} (h : s.size ≤ w) (hn : (0 : UInt8) ∉ s.data.toList) : wordOk s (w : Int) = true := by
  unfold wordOk
  rw [(noNought_iff s).2 hn, decide_eq_true (by omega)]
  rfl
theorem entryHd_ok {n : Nd} (h : OneFacts n) : hdOk (entryHd n) = true := by
  obtain ⟨⟨o1, o2, o3⟩, ⟨p1, p2⟩, ⟨l1, l2⟩⟩ := names_good h.path h.link.1
  have hk : n.f2 = 48 ∨ n.f2 = 49 ∨ n.f2 = 50 ∨ n.f2 = 53 := by
    rcases h.kind with ⟨e, _⟩ | ⟨e, _⟩ | ⟨e, _⟩ | ⟨e, _⟩ <;> omega
  have h77 : (entryHd n).f8 ≠ 77 := by show n.f2 ≠ 77; omega
  have ht : typeOk n.f2 = true := by rcases hk with e | e | e | e <;> (rw [e]; decide +kernel)
  have hd := h.data
  have w0 : wordOk (namesB n.f0 n.f1).1 100 = true := wordOk_of o2 o3
  have w1 : wordOk (namesB n.f0 n.f1).2.1 155 = true := wordOk_of p1 p2
  have w2 : wordOk (namesB n.f0 n.f1).2.2 100 = true := wordOk_of l1 l2
  have n3 := putN_ok8 h.mode.1 (by have := h.mode; omega)
  have n4 := putN_ok8 h.uid.1 h.uid.2
  have n5 := putN_ok8 h.gid.1 h.gid.2
  have n6 := putN_ok12 (n := (n.f7.size : Int)) (by omega) (by omega)
  have n7 := putN_ok12 h.time.1 h.time.2
  have hne : ((namesB n.f0 n.f1).1.toList == ([] : List UInt8)) = false := by rw [nil_size]; exact decide_eq_false (by omega)
  unfold hdOk hdA hdWords hdNumbers
  rw [if_neg h77, if_neg h77, if_neg h77]
  show ((!((namesB n.f0 n.f1).1.toList == ([] : List UInt8)) && (typeOk n.f2 && true)) && ((wordOk (namesB n.f0 n.f1).1 100 && (wordOk (namesB n.f0 n.f1).2.2 100 && (wordOk (namesB n.f0 n.f1).2.1 155 && true))) && ((putN n.f3 8).2 && ((putN n.f4 8).2 && ((putN n.f5 8).2 && ((putN (n.f7.size : Int) 12).2 && ((putN n.f6 12).2 && true))))))) = true
  rw [hne, ht, w0, w1, w2, n3, n4, n5, n6, n7]
  rfl
theorem entryHd_in {n : Nd} (h : OneFacts n) : hdIn (entryHd n) := by
  have hk : n.f2 = 48 ∨ n.f2 = 49 ∨ n.f2 = 50 ∨ n.f2 = 53 := by
    rcases h.kind with ⟨e, _⟩ | ⟨e, _⟩ | ⟨e, _⟩ | ⟨e, _⟩ <;> omega
  have hd := h.data
  obtain ⟨hm, hu, hg, ht⟩ := And.intro h.mode (And.intro h.uid (And.intro h.gid h.time))
  refine ⟨⟨by show 0 ≤ n.f2; omega, by show n.f2 ≤ 255; omega⟩, by show n.f3 ≤ _; omega, by show n.f4 ≤ _; omega, by show n.f5 ≤ _; omega, by show (n.f7.size : Int) ≤ _; omega, by show n.f6 ≤ _; omega, by show (0 : Int) ≤ _; omega, by show (0 : Int) ≤ _; omega⟩
def entryB (n : Nd) : List (List Int) := aheadB n.f0 n.f1 ++ (hdBlk (entryHd n) :: cutL n.f7)
end
section
open Go.Proofs.YtpedagpcblnnhaaGreatY
theorem hdOk_noughts {h : Hd} (ho : hdOk h = true) : (0 : UInt8) ∉ h.f0.data.toList ∧ (0 : UInt8) ∉ h.f2.data.toList ∧ (h.f8 ≠ 77 → (0 : UInt8) ∉ h.f1.data.toList) ∧ (h.f8 = 77 → h.f1.size = 0) ∧ (h.f8 ≠ 77 → h.f9 = 0 ∧ h.f10 = 0) := by
  obtain ⟨hw, _⟩ := hdOk_parts ho
  unfold hdOk hdA at ho
  unfold hdWords at hw
  by_cases hM : h.f8 = 77
  · rw [if_pos hM] at hw
    rw [if_pos hM] at ho
    simp only [Bool.and_eq_true] at ho
    simp only [List.cons_append, List.nil_append, List.all_cons, List.all_nil, Bool.and_eq_true, wordOk] at hw
    exact ⟨(noNought_iff _).1 hw.1.2, (noNought_iff _).1 hw.2.1.2, fun hne => absurd hM hne, fun _ => (nil_size' _).1 (beq_iff_eq.1 ho.1.2.2), fun hne => absurd hM hne⟩
  · rw [if_neg hM] at hw
    rw [if_neg hM] at ho
    simp only [Bool.and_eq_true, beq_iff_eq] at ho
    simp only [List.cons_append, List.nil_append, List.all_cons, List.all_nil, Bool.and_eq_true, wordOk] at hw
    exact ⟨(noNought_iff _).1 hw.1.2, (noNought_iff _).1 hw.2.1.2, fun _ => (noNought_iff _).1 hw.2.2.1.2, fun he => absurd he hM, fun _ => ho.1.2.2⟩
theorem empty_of_size {s : ByteArray} (h : s.size = 0) : s = ⟨#[]⟩ := ByteArray.ext (Array.ext' (List.eq_nil_of_length_eq_zero (by rw [Array.length_toList]; exact h)))
theorem mayL_text {s : ByteArray} (h : mayL s.data.toList = true) : textB s = true := by
  have hz := mayL_pos h
  have hn := mayL_nought h
  unfold textB
  rw [decide_eq_true (by omega), decide_eq_true (by omega)]
  have : s.data.toList.contains 0 = false := by
    rw [← Bool.not_eq_true]
    exact fun hc => hn (List.contains_iff_mem.1 hc)
  rw [this]
  rfl
theorem aheadB_one {n : Nd} (h : OneFacts n) : aheadB n.f0 n.f1 = (if (needsB n.f0 n.f1).2 = true then longL 75 n.f1 else []) ++ (if (needsB n.f0 n.f1).1 = true then longL 76 n.f0 else []) := by
  unfold aheadB
  have e0 : longB 76 n.f0 = (longL 76 n.f0, true) := by rw [longB_is (.inr rfl), if_pos (mayL_text h.path)]
  rw [e0]
  congr 1
  by_cases c : (needsB n.f0 n.f1).2 = true
  · rw [if_pos c, if_pos c]
    have hbig : 100 < n.f1.size := by unfold needsB at c; simp at c; omega
    have ht : textB n.f1 = true := by
      rcases h.kind with ⟨_, e, _⟩ | ⟨_, e, _⟩ | ⟨_, e, _⟩ | ⟨_, e, _⟩
      · omega
      · exact mayL_text e
      · exact e
      · omega
    rw [longB_is (.inl rfl), if_pos ht]
  · rw [if_neg c, if_neg c]
theorem OneFacts.kinds {n : Nd} (h : OneFacts n) : n.f2 = 48 ∨ n.f2 = 49 ∨ n.f2 = 50 ∨ n.f2 = 53 := by
  rcases h.kind with ⟨e, _⟩ | ⟨e, _⟩ | ⟨e, _⟩ | ⟨e, _⟩ <;> omega
theorem OneFacts.linkText {n : Nd} (h : OneFacts n) (c : (needsB n.f0 n.f1).2 = true) : textB n.f1 = true := by
  have hbig : 100 < n.f1.size := by unfold needsB at c; simp at c; omega
  rcases h.kind with ⟨_, e, _⟩ | ⟨_, e, _⟩ | ⟨_, e, _⟩ | ⟨_, e, _⟩
  · omega
  · exact mayL_text e
  · exact e
  · omega
end
section
open Go.Proofs.YtpedagpcblnnhaaGreatY
theorem entryHead_yes {n : Nd} (ho : oneB n = true) : entry_Head.f n.f0 n.f1 n.f2 n.f3 n.f4 n.f5 n.f6 n.f7 = some ((entryHd n).f0, (entryHd n).f1, (entryHd n).f2, (entryHd n).f3, (entryHd n).f4, (entryHd n).f5, (entryHd n).f6, (entryHd n).f7, (entryHd n).f8, (entryHd n).f9, (entryHd n).f10, true) := by
  have h := oneB_facts ho
  have hz := mayL_pos h.path
  have hl := h.link
  unfold entry_Head.f entry_entry_head.f
  rw [one_b n (by omega) (by omega), ho, names_f n.f0 n.f1 n.f2 n.f3 n.f4 n.f5 n.f6 n.f7 (by omega)]
  rfl
theorem headPut_yes {h : Hd} (ho : hdOk h = true) (hi : hdIn h) : head_Put.f h.f0 h.f1 h.f2 h.f3 h.f4 h.f5 h.f6 h.f7 h.f8 h.f9 h.f10 = some (hdBlk h, true) := by
  unfold head_Put.f
  have hi' : hdIn ⟨h.f0, h.f1, h.f2, h.f3, h.f4, h.f5, h.f6, h.f7, h.f8, h.f9, h.f10⟩ := hi
  rw [if_pos hi']
  unfold headPut
  have ho' : hdOk ⟨h.f0, h.f1, h.f2, h.f3, h.f4, h.f5, h.f6, h.f7, h.f8, h.f9, h.f10⟩ = true := ho
  rw [if_pos ho']
theorem cut_f {s : ByteArray} (h : s.size ≤ 1000000) : block_Cut.f s = some (cutL s) := by unfold block_Cut.f; rw [if_pos h]
theorem cutL_length (s : ByteArray) : (cutL s).length = manyB s.size := by rw [cutL_eq, (cutB_length _ _ rfl).1, bytesOf_length]
theorem aheadB_len {a0 a1 : ByteArray} (h0 : a0.size ≤ 10000) (h1 : a1.size ≤ 10000) : (aheadB a0 a1).length ≤ 2000 := by
  have g1 := longB_length (kind := 75) h1
  have g0 := longB_length (kind := 76) h0
  unfold aheadB
  have e : ([] : List (List Int)).length = 0 := rfl
  rw [List.length_append]
  split <;> split <;> (try rw [e]) <;> omega
theorem entryPut_yes {n : Nd} (ho : oneB n = true) : entry_Put.f n.f0 n.f1 n.f2 n.f3 n.f4 n.f5 n.f6 n.f7 = some (entryB n, true) := by
  have h := oneB_facts ho
  have hz := mayL_pos h.path
  have hl := h.link
  have hd := h.data
  unfold entry_Put.f
  rw [entryHead_yes ho]
  simp only [Option.bind_some]
  rw [if_pos trivial, headPut_yes (entryHd_ok h) (entryHd_in h), ahead_f n.f0 n.f1 n.f2 n.f3 n.f4 n.f5 n.f6 n.f7 (by omega) (by omega), cut_f (by omega)]
  simp only [Option.bind_some]
  rw [if_pos]
  · rfl
  · have := aheadB_len (a0 := n.f0) (a1 := n.f1) (by omega) (by omega)
    rw [cutL_length]
    unfold manyB
    omega
theorem entryB_length {n : Nd} (h : OneFacts n) : (entryB n).length = (aheadB n.f0 n.f1).length + 1 + manyB n.f7.size := by
  unfold entryB
  rw [List.length_append, List.length_cons, cutL_length]
  omega
theorem aheadB_count {n : Nd} (h : OneFacts n) : (aheadB n.f0 n.f1).length = (if 100 < n.f1.size then 2 else 0) + (if (needsB n.f0 n.f1).1 = true then 2 else 0) := by
  have hz := mayL_pos h.path
  have hl := h.link
  rw [aheadB_one h, List.length_append]
  have e : (needsB n.f0 n.f1).2 = decide (100 < n.f1.size) := by
    show decide ((n.f1.size : Int) > 100) = _
    exact decide_eq_decide.2 ⟨fun _ => by omega, fun _ => by omega⟩
  rw [e]
  by_cases c1 : 100 < n.f1.size
  · rw [if_pos c1, if_pos (decide_eq_true c1), longL_two hl.2]
    by_cases c2 : (needsB n.f0 n.f1).1 = true
    · rw [if_pos c2, if_pos c2, longL_two hz.2]
    · rw [if_neg c2, if_neg c2]; rfl
  · rw [if_neg c1, if_neg (by rw [decide_eq_false c1]; decide)]
    by_cases c2 : (needsB n.f0 n.f1).1 = true
    · rw [if_pos c2, if_pos c2, longL_two hz.2]; rfl
    · rw [if_neg c2, if_neg c2]; rfl
end
section
open Go.Proofs.YtpedagpcblnnhaaGreatY
theorem str_bytesOf (s : ByteArray) : strOfNums (bytesOf s) = s := bytesOf_inj (bytes_of_nums _ (byteOk_bytesOf s))
theorem guess_hdBlk {h : Hd} (ho : hdOk h = true) (hi : hdIn h) : guess (hdBlk h) = h := by
  obtain ⟨_, i3, i4, i5, i6, i7, i9, i10⟩ := hi
  obtain ⟨a0, a2, a1, a1', a9⟩ := hdOk_noughts ho
  have fh := hdOk_fit ho
  have t := read_type ho
  unfold guess
  rw [t, read_name ho, read_link ho, read_mode ho, read_uid ho, read_gid ho, read_size ho, read_time ho,
    getN_putN fh.2.1.1 i3, getN_putN fh.2.1.2.1 i4, getN_putN fh.2.1.2.2.1 i5, getN_putN fh.2.1.2.2.2.1 i6, getN_putN fh.2.1.2.2.2.2 i7,
    uptoL_padTo (bytesOf_nought a0), uptoL_padTo (bytesOf_nought a2), str_bytesOf, str_bytesOf]
  by_cases hM : h.f8 = 77
  · rw [if_pos hM, if_pos hM, if_pos hM, read_off ho hM, read_real ho hM, getN_putN (fh.2.2 hM).1 i9, getN_putN (fh.2.2 hM).2 i10, ← empty_of_size (a1' hM)]
  · rw [if_neg hM, if_neg hM, if_neg hM, read_prefix ho hM, uptoL_padTo (bytesOf_nought (a1 hM)), str_bytesOf, ← (a9 hM).1]
    have e10 : h.f9 = h.f10 := by rw [(a9 hM).1, (a9 hM).2]
    cases h
    simp only at e10 ⊢
    rw [← e10]
theorem hdOk_type {h : Hd} (ho : hdOk h = true) : typeOk h.f8 = true := by
  unfold hdOk hdA at ho
  simp only [Bool.and_eq_true] at ho
  exact ho.1.2.1
theorem headGet_put {h : Hd} (ho : hdOk h = true) (hi : hdIn h) : headGet (hdBlk h) = (h, 0) := by
  have hl := hdBlk_length ho
  have hne : h.f8 ≠ 0 := by
    intro e
    have := hdOk_type ho
    rw [e] at this
    exact absurd this (by decide +kernel)
  have hz : ¬ (hdBlk h).all (fun c => c == 0) = true := by
    intro hz
    have h1 := List.all_eq_true.1 hz ((hdBlk h)[156]'(by omega)) (List.getElem_mem _)
    have t := read_type ho
    rw [List.getD_eq_getElem?_getD, List.getElem?_eq_getElem (by omega)] at t
    simp only [Option.getD_some] at t
    rw [t] at h1
    exact hne (by simpa using h1)
  unfold headGet
  rw [if_neg (by omega), if_neg hz, if_neg (by rw [hdBlk_sign ho]; simp), guess_hdBlk ho hi]
  unfold headPut
  rw [if_pos ho, if_pos ⟨rfl, rfl⟩]
end
end Go.Proofs.YtpedagpcblnnhaaGreat.X
