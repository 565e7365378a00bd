/- Paths, plainly: what May, Below and Parent of package path compute. -/
import Derived.Test.YtddjnicmpgbcgaaXK
import Derived.Test.YtddjnicmpgbcgaaXGpath
import Derived.Test.YtddjnicmpgbcgaaXGpath
import Derived.Test.YtddjnicmpgbcgaaYPath
import Derived.Lib.IndexAny
namespace Go.Proofs.Ytddjnicmpgbcgaa.X
open Go.RowKit Go.Proofs.YtddjnicmpgbcgaaW.PrintWords Go.Proofs.YtddjnicmpgbcgaaW.PrintLast Go.Proofs.YtddjnicmpgbcgaaW.PrintMore
attribute [local go_sem] max2_int min2_int max_two min_two max_three min_three max_four min_four
set_option linter.unusedVariables false
set_option linter.unusedSimpArgs false

open Go.Proofs.YtddjnicmpgbcgaaY

theorem wrap_id {x : Int} (h0 : -9223372036854775808 ≤ x) (h1 : x ≤ 9223372036854775807) : wrap64 x = x := by unfold wrap64; omega

theorem mayA_eq (s : ByteArray) : mayA s = mayL s.data.toList := by
  unfold mayA mayL splitA
  have e : decide (Lib.indexByte s.data.toList 0 < 0) = !s.data.toList.contains 0 := by
    rw [Lib.contains_iff_indexByte]
    by_cases h : Lib.indexByte s.data.toList 0 < 0
    · simp [h]
    · simp [h]; omega
  rw [e, List.all_map, Array.length_toList]
  rfl

theorem may_f {s : ByteArray} (h : s.size ≤ 9223372036854775807) : path_May.f s = some (mayL s.data.toList) := by
  unfold path_May.f; rw [if_pos h, mayA_eq]
theorem mayL_size {l : List UInt8} (h : mayL l = true) : l.length ≤ 300 := by
  unfold mayL at h
  simp only [Bool.and_eq_true, decide_eq_true_eq] at h
  exact h.2.1

theorem mayL_append (a b : List UInt8) : mayL (a ++ 47 :: b) = (mayL a && mayL b && decide (a.length + b.length + 1 ≤ 300)) := by
  unfold mayL
  rw [splitL_append, List.all_append]
  have e : (a ++ 47 :: b).contains (0 : UInt8) = (a.contains 0 || b.contains 0) := by
    simp [List.contains_eq_any_beq, List.any_append]
  rw [e]
  simp only [List.length_append, List.length_cons]
  by_cases h1 : a.length + (b.length + 1) ≤ 300
  · have h2 : a.length ≤ 300 := by omega
    have h3 : b.length ≤ 300 := by omega
    have h4 : a.length + b.length + 1 ≤ 300 := by omega
    simp only [h1, h2, h3, h4, decide_true, Bool.true_and, Bool.and_true]
    cases (splitL a).all fun x => !oddL x <;> cases (splitL b).all fun x => !oddL x <;> cases a.contains 0 <;> cases b.contains 0 <;> rfl
  · have h4 : ¬ a.length + b.length + 1 ≤ 300 := by omega
    simp [h1, h4]

theorem mayL_ne {l : List UInt8} (h : mayL l = true) : l ≠ [] := by
  rintro rfl
  revert h; decide

theorem app_data (a b : ByteArray) : (a ++ b).data.toList = a.data.toList ++ b.data.toList := by simp

/-- Is it below? -/
def belowL (p q : List UInt8) : Bool := mayL p && (mayL q && (q ++ [47]).isPrefixOf p)

theorem below_f {a b : ByteArray} (ha : a.size ≤ 9223372036854775807) (hb : b.size < 9223372036854775807) : path_Below.f a b = some (belowL a.data.toList b.data.toList) := by
  unfold path_Below.f belowL
  rw [may_f ha]
  simp only [Option.bind_some]
  cases hA : mayL a.data.toList
  · rfl
  rw [may_f (by omega)]
  simp only [Option.bind_some, if_true]
  cases hB : mayL b.data.toList
  · rfl
  rw [if_pos rfl, if_pos (by omega)]
  unfold strings_HasPrefix.f stringslite_HasPrefix.f
  have e : (b ++ (⟨#[47]⟩ : ByteArray)).size = b.size + 1 := by rw [ByteArray.size_append]; rfl
  rw [e]
  by_cases h : b.size + 1 ≤ a.size
  · rw [if_pos (by omega), if_pos (by omega), if_pos (by omega)]
    simp only [Option.bind_some]
    congr 1
    rw [Lib.toList_data, Lib.toList_data, Lib.extract_data]
    rw [app_data]
    simp only [Int.toNat_natCast, Nat.sub_zero, List.drop_zero, Bool.true_and]
    rw [Bool.eq_iff_iff, List.isPrefixOf_iff_prefix, List.prefix_iff_eq_take, beq_iff_eq]
    simp only [List.length_append, Array.length_toList, List.length_cons, List.length_nil]
    exact eq_comm
  · rw [if_neg (by omega)]
    simp only [Option.bind_some]
    congr 1
    symm
    rw [Bool.true_and, Bool.true_and, Bool.eq_false_iff]
    intro h2
    have := (List.isPrefixOf_iff_prefix.1 h2).length_le
    simp at this
    exact h this

theorem bt_some {s : ByteArray} {n : Nat} (h : n < s.size) : ∃ c, s.data.toList[n]? = some c ∧ bt s (n : Int) = (c.toNat : Int) := by
  refine ⟨s[n], Lib.data_getElem? s n h, ?_⟩
  rw [← bt_at s (n : Int) (by simpa using h)]
  rfl
theorem bt_eq {s : ByteArray} {n : Nat} {c : UInt8} (h : s.data.toList[n]? = some c) : bt s (n : Int) = (c.toNat : Int) := by
  have hl := (List.getElem?_eq_some_iff.1 h).1
  rw [Array.length_toList] at hl
  obtain ⟨d, h1, h2⟩ := bt_some (s := s) (n := n) hl
  rw [h] at h1
  cases h1
  exact h2
theorem bt_is {s : ByteArray} {n : Nat} (h : n < s.size) (c : UInt8) : bt s (n : Int) = (c.toNat : Int) ↔ s.data.toList[n]? = some c := by
  obtain ⟨d, h1, h2⟩ := bt_some h
  rw [h2, h1]
  constructor
  · intro e; rw [UInt8.toNat_inj.1 (by omega : d.toNat = c.toNat)]
  · intro e; cases e; rfl

theorem list_at {l : List UInt8} {n : Nat} {c : UInt8} (h : l[n]? = some c) : l = l.take n ++ c :: l.drop (n + 1) := by
  obtain ⟨hlt, he⟩ := List.getElem?_eq_some_iff.1 h
  conv => lhs; rw [← List.take_append_drop n l, List.drop_eq_getElem_cons hlt, he]

theorem last_ev (s : ByteArray) (hs : s.size ≤ 9223372036854775807) (n : Nat) : n ≤ s.size → (47 : UInt8) ∉ s.data.toList.drop n →
    ∃ r, Ev (fun k => bytealg_LastIndexByteString.l0 k s 47 ((n : Int) - 1)) r ∧ ((r = -1 ∧ (47 : UInt8) ∉ s.data.toList) ∨
      ∃ m : Nat, r = m ∧ m < s.size ∧ s.data.toList[m]? = some 47 ∧ (47 : UInt8) ∉ s.data.toList.drop (m + 1)) := by
  induction n with
  | zero =>
    intro _ h
    refine ⟨-1, Ev.step (fun _ => rfl) ?_, .inl ⟨rfl, by simpa using h⟩⟩
    simp only [bytealg_LastIndexByteString.l0]
    exact Ev.congr (fun k => by rw [if_neg (by omega)]) (Ev.now _)
  | succ n ih =>
    intro hn h
    by_cases hc : bt s (n : Int) = 47
    · have hq : s.data.toList[n]? = some 47 := (bt_is (by omega) 47).1 hc
      refine ⟨n, Ev.step (fun _ => rfl) ?_, .inr ⟨n, rfl, by omega, hq, h⟩⟩
      simp only [bytealg_LastIndexByteString.l0]
      refine Ev.congr (fun k => ?_) (Ev.now _)
      rw [show (((n + 1 : Nat) : Int) - 1) = (n : Int) by omega, if_pos (by omega), if_pos (by omega), if_pos (by omega), if_pos hc]
    · obtain ⟨r, hr, h2⟩ := ih (by omega) (by
        obtain ⟨c, h1, h2⟩ := bt_some (s := s) (n := n) (by omega)
        have hlt := (List.getElem?_eq_some_iff.1 h1).1
        rw [List.drop_eq_getElem_cons hlt]
        intro hm
        rcases List.mem_cons.1 hm with e | hm
        · rw [List.getElem?_eq_getElem hlt, ← e] at h1
          exact hc ((bt_is (by omega) 47).2 (by rw [List.getElem?_eq_getElem hlt, ← e]))
        · exact h hm)
      refine ⟨r, Ev.step (fun _ => rfl) ?_, h2⟩
      simp only [bytealg_LastIndexByteString.l0]
      refine Ev.congr (fun k => ?_) hr
      rw [show (((n + 1 : Nat) : Int) - 1) = (n : Int) by omega, if_pos (by omega), if_pos (by omega), if_pos (by omega), if_neg hc, wrap_id (by omega) (by omega)]

/-- What a parent is. -/
def IsParent (s : ByteArray) (r : ByteArray × Bool) : Prop :=
  (r = (⟨#[]⟩, false) ∧ (mayL s.data.toList = true → (47 : UInt8) ∉ s.data.toList)) ∨
  (r.2 = true ∧ mayL s.data.toList = true ∧ ∃ y, s.data.toList = r.1.data.toList ++ 47 :: y ∧ (47 : UInt8) ∉ y)

theorem tail_unique {a b x y : List UInt8} (h : a ++ 47 :: x = b ++ 47 :: y) (hx : (47 : UInt8) ∉ x) (hy : (47 : UInt8) ∉ y) : a = b := by
  have h1 := congrArg List.reverse h
  simp only [List.reverse_append, List.reverse_cons, List.append_assoc, List.cons_append, List.nil_append] at h1
  have key : ∀ (p q a b : List UInt8), (47 : UInt8) ∉ p → (47 : UInt8) ∉ q → p ++ 47 :: a = q ++ 47 :: b → a = b := by
    intro p
    induction p with
    | nil =>
      intro q a b _ hq e
      cases q with
      | nil => simpa using e
      | cons c q => simp only [List.nil_append, List.cons_append, List.cons.injEq] at e; exact absurd (by rw [← e.1]; simp) hq
    | cons c p ih =>
      intro q a b hp hq e
      cases q with
      | nil => simp only [List.nil_append, List.cons_append, List.cons.injEq] at e; exact absurd (by rw [e.1]; simp) hp
      | cons d q =>
        simp only [List.cons_append, List.cons.injEq] at e
        exact ih q a b (fun h => hp (by simp [h])) (fun h => hq (by simp [h])) e.2
  have := key _ _ _ _ (by simpa using hx) (by simpa using hy) h1
  simpa using congrArg List.reverse this

theorem IsParent.unique {s : ByteArray} {r q : ByteArray × Bool} (h : IsParent s r) (k : IsParent s q) : r = q := by
  rcases h with ⟨rfl, h⟩ | ⟨h1, h2, y, h3, h4⟩
  · rcases k with ⟨rfl, _⟩ | ⟨k1, k2, z, k3, _⟩
    · rfl
    · exact absurd (by rw [k3]; simp) (h k2)
  · rcases k with ⟨rfl, k⟩ | ⟨k1, k2, z, k3, k4⟩
    · exact absurd (by rw [h3]; simp) (k h2)
    · rw [h3] at k3
      exact Prod.ext (ext_data (tail_unique k3 h4 k4)) (h1.trans k1.symm)

theorem parent_ev (s : ByteArray) (hs : s.size ≤ 9223372036854775807) : ∃ r, Ev (fun k => path_Parent.f k s) r ∧ IsParent s r := by
  obtain ⟨i, h1, h2⟩ := last_ev s hs s.size (Nat.le_refl _) (by rw [List.drop_of_length_le (by rw [Array.length_toList]; exact Nat.le_refl _)]; simp)
  have h3 : Ev (fun k => strings_LastIndexByte.f k s 47) i := by
    unfold strings_LastIndexByte.f bytealg_LastIndexByteString.f
    rw [wrap_id (by omega) (by omega)]
    exact Ev.bind h1 (Ev.now _)
  unfold path_Parent.f
  cases hm : mayL s.data.toList
  · refine ⟨(⟨#[]⟩, false), Ev.bind h3 ?_, .inl ⟨rfl, fun h => by rw [hm] at h; cases h⟩⟩
    rw [may_f hs, hm]
    simp only [Option.bind_some]
    refine Ev.congr (fun k => ?_) (Ev.now _)
    simp
  · rcases h2 with ⟨rfl, hn⟩ | ⟨m, rfl, hlt, hq, hn⟩
    · exact ⟨(⟨#[]⟩, false), Ev.bind h3 (Ev.congr (fun k => by rw [if_pos (by omega)]) (Ev.now _)), .inl ⟨rfl, fun _ => hn⟩⟩
    · refine ⟨(s.extract 0 m, true), Ev.bind h3 ?_, .inr ⟨rfl, hm, s.data.toList.drop (m + 1), ?_, hn⟩⟩
      · rw [may_f hs, hm]
        simp only [Option.bind_some]
        exact Ev.congr (fun k => by rw [if_neg (by omega), if_pos trivial, if_pos (by omega), if_pos (by omega)]; simp) (Ev.now _)
      · have e : (s.extract 0 m).data.toList = s.data.toList.take m := by rw [Lib.extract_data]; simp
        rw [e]
        exact list_at hq

theorem Ev.of_eq {α : Type} {g : Nat → Option α} {r : α} (h : ∀ k, g k = some r) : Ev g r := ⟨0, fun k _ => h k⟩
theorem Ev.if_pos {α : Type} {c : Prop} [Decidable c] {a b : Nat → Option α} {r : α} (hc : c) (h : Ev a r) : Ev (fun k => if c then a k else b k) r := by simpa only [_root_.if_pos hc] using h
theorem Ev.if_neg {α : Type} {c : Prop} [Decidable c] {a b : Nat → Option α} {r : α} (hc : ¬ c) (h : Ev b r) : Ev (fun k => if c then a k else b k) r := by simpa only [_root_.if_neg hc] using h
theorem below_prefix {p q : List UInt8} (h : belowL p q = true) : ∃ r, p = q ++ 47 :: r := by
  unfold belowL at h
  simp only [Bool.and_eq_true] at h
  obtain ⟨r, hr⟩ := List.isPrefixOf_iff_prefix.1 h.2.2
  exact ⟨r, by rw [← hr]; simp⟩
theorem below_may {p q : List UInt8} (h : belowL p q = true) : mayL p = true ∧ mayL q = true := by
  unfold belowL at h
  simp only [Bool.and_eq_true] at h
  exact ⟨h.1, h.2.1⟩
theorem below_mk {p q r : List UInt8} (hp : mayL p = true) (hq : mayL q = true) (h : p = q ++ 47 :: r) : belowL p q = true := by
  unfold belowL
  rw [hp, hq, Bool.true_and, Bool.true_and]
  exact List.isPrefixOf_iff_prefix.2 ⟨r, by rw [h]; simp⟩
theorem below_self (p : List UInt8) : belowL p p = false := by
  rw [Bool.eq_false_iff]
  intro h
  obtain ⟨r, hr⟩ := below_prefix h
  have := congrArg List.length hr
  simp at this
theorem below_len {p q : List UInt8} (h : belowL p q = true) : q.length < p.length := by
  obtain ⟨r, hr⟩ := below_prefix h
  rw [hr]; simp
theorem below_trans {a b c : List UInt8} (h : belowL a b = true) (k : belowL b c = true) : belowL a c = true := by
  obtain ⟨r, hr⟩ := below_prefix h
  obtain ⟨s, hs⟩ := below_prefix k
  exact below_mk (r := s ++ 47 :: r) (below_may h).1 (below_may k).2 (by rw [hr, hs]; simp)

end Go.Proofs.Ytddjnicmpgbcgaa.X
