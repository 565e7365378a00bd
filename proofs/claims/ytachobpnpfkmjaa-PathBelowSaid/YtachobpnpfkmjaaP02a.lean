/- Layer 2, plainly: what the functions of packages path and reelkeeperref02 compute. -/
import Derived.Test.YtachobpnpfkmjaaXK
import Derived.Test.YtachobpnpfkmjaaXGpath
import Derived.Test.YtachobpnpfkmjaaXGpath
import Derived.Test.YtachobpnpfkmjaaXGpath
import Derived.Test.YtachobpnpfkmjaaXGpath
import Derived.Test.YtachobpnpfkmjaaXGpath
import Derived.Test.YtachobpnpfkmjaaXGreelkeeperref02
import Derived.Test.YtachobpnpfkmjaaXGreelkeeperref02
import Derived.Test.YtachobpnpfkmjaaXGreelkeeperref02
import Derived.Test.YtachobpnpfkmjaaXGreelkeeperref02
import Derived.Test.YtachobpnpfkmjaaXGreelkeeperref02
import Derived.Test.YtachobpnpfkmjaaYPath
import Derived.Lib.IndexAny
namespace Go.Proofs.Ytachobpnpfkmjaa.X
open Go.RowKit Go.Proofs.YtachobpnpfkmjaaW.PrintWords Go.Proofs.YtachobpnpfkmjaaW.PrintLast Go.Proofs.YtachobpnpfkmjaaW.PrintMore
attribute [local go_sem] max2_int min2_int max_two min_two max_three min_three max_four min_four
set_option linter.unusedVariables false
set_option linter.unusedSimpArgs false

open Go.Proofs.YtachobpnpfkmjaaY

theorem wrap_id {x : Int} (h0 : -9223372036854775808 ≤ x) (h1 : x ≤ 9223372036854775807) : wrap64 x = x := by unfold wrap64; omega

theorem mayA_eq (s : ByteArray) : mayA s = mayL s.data.toList := by
  unfold mayA mayL splitA
  have e : decide (Lib.indexByte s.data.toList 0 < 0) = !s.data.toList.contains 0 := by
    rw [Lib.contains_iff_indexByte]
    by_cases h : Lib.indexByte s.data.toList 0 < 0
    · simp [h]
    · simp [h]; omega
  rw [e, List.all_map, Array.length_toList]
  rfl

theorem may_f {s : ByteArray} (h : s.size ≤ 9223372036854775807) : path_May.f s = some (mayL s.data.toList) := by
  unfold path_May.f; rw [if_pos h, mayA_eq]
theorem parts_f {s : ByteArray} (h : s.size ≤ 9223372036854775807) : path_Parts.f s = some (if mayL s.data.toList then splitA s else []) := by
  unfold path_Parts.f; rw [if_pos h, mayA_eq]

theorem mayL_size {l : List UInt8} (h : mayL l = true) : l.length ≤ 300 := by
  unfold mayL at h
  simp only [Bool.and_eq_true, decide_eq_true_eq] at h
  exact h.2.1

theorem mayL_append (a b : List UInt8) : mayL (a ++ 47 :: b) = (mayL a && mayL b && decide (a.length + b.length + 1 ≤ 300)) := by
  unfold mayL
  rw [splitL_append, List.all_append]
  have e : (a ++ 47 :: b).contains (0 : UInt8) = (a.contains 0 || b.contains 0) := by
    simp [List.contains_eq_any_beq, List.any_append]
  rw [e]
  simp only [List.length_append, List.length_cons]
  by_cases h1 : a.length + (b.length + 1) ≤ 300
  · have h2 : a.length ≤ 300 := by omega
    have h3 : b.length ≤ 300 := by omega
    have h4 : a.length + b.length + 1 ≤ 300 := by omega
    simp only [h1, h2, h3, h4, decide_true, Bool.true_and, Bool.and_true]
    cases (splitL a).all fun x => !oddL x <;> cases (splitL b).all fun x => !oddL x <;> cases a.contains 0 <;> cases b.contains 0 <;> rfl
  · have h4 : ¬ a.length + b.length + 1 ≤ 300 := by omega
    simp [h1, h4]

theorem mayL_ne {l : List UInt8} (h : mayL l = true) : l ≠ [] := by
  rintro rfl
  revert h; decide

theorem join_f {a b : ByteArray} (h : a.size + b.size + 1 ≤ 9223372036854775807) : path_Join.f a b = some (if a.data.toList = [] then b else (a ++ (⟨#[47]⟩ : ByteArray)) ++ b) := by
  unfold path_Join.f
  rw [Lib.toList_data]
  by_cases h1 : a.data.toList = []
  · rw [if_pos h1, if_pos h1]
  · rw [if_neg h1, if_neg h1, if_pos (by omega), if_pos (by rw [ByteArray.size_append]; show a.size + 1 + b.size ≤ _; omega)]

theorem app_data (a b : ByteArray) : (a ++ b).data.toList = a.data.toList ++ b.data.toList := by simp

/-- Is it below? -/
def belowL (p q : List UInt8) : Bool := mayL p && (mayL q && (q ++ [47]).isPrefixOf p)

theorem below_f {a b : ByteArray} (ha : a.size ≤ 9223372036854775807) (hb : b.size < 9223372036854775807) : path_Below.f a b = some (belowL a.data.toList b.data.toList) := by
  unfold path_Below.f belowL
  rw [may_f ha]
  simp only [Option.bind_some]
  cases hA : mayL a.data.toList
  · rfl
  rw [may_f (by omega)]
  simp only [Option.bind_some, if_true]
  cases hB : mayL b.data.toList
  · rfl
  rw [if_pos rfl, if_pos (by omega)]
  unfold strings_HasPrefix.f stringslite_HasPrefix.f
  have e : (b ++ (⟨#[47]⟩ : ByteArray)).size = b.size + 1 := by rw [ByteArray.size_append]; rfl
  rw [e]
  by_cases h : b.size + 1 ≤ a.size
  · rw [if_pos (by omega), if_pos (by omega), if_pos (by omega)]
    simp only [Option.bind_some]
    congr 1
    rw [Lib.toList_data, Lib.toList_data, Lib.extract_data]
    rw [app_data]
    simp only [Int.toNat_natCast, Nat.sub_zero, List.drop_zero, Bool.true_and]
    rw [Bool.eq_iff_iff, List.isPrefixOf_iff_prefix, List.prefix_iff_eq_take, beq_iff_eq]
    simp only [List.length_append, Array.length_toList, List.length_cons, List.length_nil]
    exact eq_comm
  · rw [if_neg (by omega)]
    simp only [Option.bind_some]
    congr 1
    symm
    rw [Bool.true_and, Bool.true_and, Bool.eq_false_iff]
    intro h2
    have := (List.isPrefixOf_iff_prefix.1 h2).length_le
    simp at this
    exact h this

theorem bt_some {s : ByteArray} {n : Nat} (h : n < s.size) : ∃ c, s.data.toList[n]? = some c ∧ bt s (n : Int) = (c.toNat : Int) := by
  refine ⟨s[n], Lib.data_getElem? s n h, ?_⟩
  rw [← bt_at s (n : Int) (by simpa using h)]
  rfl
theorem bt_eq {s : ByteArray} {n : Nat} {c : UInt8} (h : s.data.toList[n]? = some c) : bt s (n : Int) = (c.toNat : Int) := by
  have hl := (List.getElem?_eq_some_iff.1 h).1
  rw [Array.length_toList] at hl
  obtain ⟨d, h1, h2⟩ := bt_some (s := s) (n := n) hl
  rw [h] at h1
  cases h1
  exact h2
theorem bt_is {s : ByteArray} {n : Nat} (h : n < s.size) (c : UInt8) : bt s (n : Int) = (c.toNat : Int) ↔ s.data.toList[n]? = some c := by
  obtain ⟨d, h1, h2⟩ := bt_some h
  rw [h2, h1]
  constructor
  · intro e; rw [UInt8.toNat_inj.1 (by omega : d.toNat = c.toNat)]
  · intro e; cases e; rfl

theorem list_at {l : List UInt8} {n : Nat} {c : UInt8} (h : l[n]? = some c) : l = l.take n ++ c :: l.drop (n + 1) := by
  obtain ⟨hlt, he⟩ := List.getElem?_eq_some_iff.1 h
  conv => lhs; rw [← List.take_append_drop n l, List.drop_eq_getElem_cons hlt, he]

theorem last_ev (s : ByteArray) (hs : s.size ≤ 9223372036854775807) (n : Nat) : n ≤ s.size → (47 : UInt8) ∉ s.data.toList.drop n →
    ∃ r, Ev (fun k => bytealg_LastIndexByteString.l0 k s 47 ((n : Int) - 1)) r ∧ ((r = -1 ∧ (47 : UInt8) ∉ s.data.toList) ∨
      ∃ m : Nat, r = m ∧ m < s.size ∧ s.data.toList[m]? = some 47 ∧ (47 : UInt8) ∉ s.data.toList.drop (m + 1)) := by
  induction n with
  | zero =>
    intro _ h
    refine ⟨-1, Ev.step (fun _ => rfl) ?_, .inl ⟨rfl, by simpa using h⟩⟩
    simp only [bytealg_LastIndexByteString.l0]
    exact Ev.congr (fun k => by rw [if_neg (by omega)]) (Ev.now _)
  | succ n ih =>
    intro hn h
    by_cases hc : bt s (n : Int) = 47
    · have hq : s.data.toList[n]? = some 47 := (bt_is (by omega) 47).1 hc
      refine ⟨n, Ev.step (fun _ => rfl) ?_, .inr ⟨n, rfl, by omega, hq, h⟩⟩
      simp only [bytealg_LastIndexByteString.l0]
      refine Ev.congr (fun k => ?_) (Ev.now _)
      rw [show (((n + 1 : Nat) : Int) - 1) = (n : Int) by omega, if_pos (by omega), if_pos (by omega), if_pos (by omega), if_pos hc]
    · obtain ⟨r, hr, h2⟩ := ih (by omega) (by
        obtain ⟨c, h1, h2⟩ := bt_some (s := s) (n := n) (by omega)
        have hlt := (List.getElem?_eq_some_iff.1 h1).1
        rw [List.drop_eq_getElem_cons hlt]
        intro hm
        rcases List.mem_cons.1 hm with e | hm
        · rw [List.getElem?_eq_getElem hlt, ← e] at h1
          exact hc ((bt_is (by omega) 47).2 (by rw [List.getElem?_eq_getElem hlt, ← e]))
        · exact h hm)
      refine ⟨r, Ev.step (fun _ => rfl) ?_, h2⟩
      simp only [bytealg_LastIndexByteString.l0]
      refine Ev.congr (fun k => ?_) hr
      rw [show (((n + 1 : Nat) : Int) - 1) = (n : Int) by omega, if_pos (by omega), if_pos (by omega), if_pos (by omega), if_neg hc, wrap_id (by omega) (by omega)]

/-- What a parent is. -/
def IsParent (s : ByteArray) (r : ByteArray × Bool) : Prop :=
  (r = (⟨#[]⟩, false) ∧ (mayL s.data.toList = true → (47 : UInt8) ∉ s.data.toList)) ∨
  (r.2 = true ∧ mayL s.data.toList = true ∧ ∃ y, s.data.toList = r.1.data.toList ++ 47 :: y ∧ (47 : UInt8) ∉ y)

theorem tail_unique {a b x y : List UInt8} (h : a ++ 47 :: x = b ++ 47 :: y) (hx : (47 : UInt8) ∉ x) (hy : (47 : UInt8) ∉ y) : a = b := by
  have h1 := congrArg List.reverse h
  simp only [List.reverse_append, List.reverse_cons, List.append_assoc, List.cons_append, List.nil_append] at h1
  have key : ∀ (p q a b : List UInt8), (47 : UInt8) ∉ p → (47 : UInt8) ∉ q → p ++ 47 :: a = q ++ 47 :: b → a = b := by
    intro p
    induction p with
    | nil =>
      intro q a b _ hq e
      cases q with
      | nil => simpa using e
      | cons c q => simp only [List.nil_append, List.cons_append, List.cons.injEq] at e; exact absurd (by rw [← e.1]; simp) hq
    | cons c p ih =>
      intro q a b hp hq e
      cases q with
      | nil => simp only [List.nil_append, List.cons_append, List.cons.injEq] at e; exact absurd (by rw [e.1]; simp) hp
      | cons d q =>
        simp only [List.cons_append, List.cons.injEq] at e
        exact ih q a b (fun h => hp (by simp [h])) (fun h => hq (by simp [h])) e.2
  have := key _ _ _ _ (by simpa using hx) (by simpa using hy) h1
  simpa using congrArg List.reverse this

theorem IsParent.unique {s : ByteArray} {r q : ByteArray × Bool} (h : IsParent s r) (k : IsParent s q) : r = q := by
  rcases h with ⟨rfl, h⟩ | ⟨h1, h2, y, h3, h4⟩
  · rcases k with ⟨rfl, _⟩ | ⟨k1, k2, z, k3, _⟩
    · rfl
    · exact absurd (by rw [k3]; simp) (h k2)
  · rcases k with ⟨rfl, k⟩ | ⟨k1, k2, z, k3, k4⟩
    · exact absurd (by rw [h3]; simp) (k h2)
    · rw [h3] at k3
      exact Prod.ext (ext_data (tail_unique k3 h4 k4)) (h1.trans k1.symm)

theorem parent_ev (s : ByteArray) (hs : s.size ≤ 9223372036854775807) : ∃ r, Ev (fun k => path_Parent.f k s) r ∧ IsParent s r := by
  obtain ⟨i, h1, h2⟩ := last_ev s hs s.size (Nat.le_refl _) (by rw [List.drop_of_length_le (by rw [Array.length_toList]; exact Nat.le_refl _)]; simp)
  have h3 : Ev (fun k => strings_LastIndexByte.f k s 47) i := by
    unfold strings_LastIndexByte.f bytealg_LastIndexByteString.f
    rw [wrap_id (by omega) (by omega)]
    exact Ev.bind h1 (Ev.now _)
  unfold path_Parent.f
  cases hm : mayL s.data.toList
  · refine ⟨(⟨#[]⟩, false), Ev.bind h3 ?_, .inl ⟨rfl, fun h => by rw [hm] at h; cases h⟩⟩
    rw [may_f hs, hm]
    simp only [Option.bind_some]
    refine Ev.congr (fun k => ?_) (Ev.now _)
    simp
  · rcases h2 with ⟨rfl, hn⟩ | ⟨m, rfl, hlt, hq, hn⟩
    · exact ⟨(⟨#[]⟩, false), Ev.bind h3 (Ev.congr (fun k => by rw [if_pos (by omega)]) (Ev.now _)), .inl ⟨rfl, fun _ => hn⟩⟩
    · refine ⟨(s.extract 0 m, true), Ev.bind h3 ?_, .inr ⟨rfl, hm, s.data.toList.drop (m + 1), ?_, hn⟩⟩
      · rw [may_f hs, hm]
        simp only [Option.bind_some]
        exact Ev.congr (fun k => by rw [if_neg (by omega), if_pos trivial, if_pos (by omega), if_pos (by omega)]; simp) (Ev.now _)
      · have e : (s.extract 0 m).data.toList = s.data.toList.take m := by rw [Lib.extract_data]; simp
        rw [e]
        exact list_at hq

/-- The first slash from a place on. -/
def slashFrom (l : List UInt8) (i : Nat) : Option Nat :=
  if 0 ≤ Lib.indexByte (l.drop i) 47 then some (i + (Lib.indexByte (l.drop i) 47).toNat) else none

theorem slashFrom_here {l : List UInt8} {i : Nat} (h : l[i]? = some 47) : slashFrom l i = some i := by
  obtain ⟨hlt, he⟩ := List.getElem?_eq_some_iff.1 h
  unfold slashFrom
  rw [List.drop_eq_getElem_cons hlt, he]
  simp [Lib.indexByte]
theorem slashFrom_next {l : List UInt8} {i : Nat} (hi : i < l.length) (h : l[i]? ≠ some 47) : slashFrom l i = slashFrom l (i + 1) := by
  have he : l[i] ≠ 47 := fun e => h (by rw [List.getElem?_eq_getElem hi, e])
  unfold slashFrom
  rw [List.drop_eq_getElem_cons hi]
  have hg := Lib.indexByte_ge (l.drop (i + 1)) 47
  generalize l.drop (i + 1) = t at *
  generalize l[i] = c at *
  have e : Lib.indexByte (c :: t) 47 = if 0 ≤ Lib.indexByte t 47 then Lib.indexByte t 47 + 1 else -1 := by
    simp only [Lib.indexByte]
    rw [if_neg (by simpa using he)]
    by_cases h0 : Lib.indexByte t 47 = -1
    · rw [if_pos (by simp [h0]), if_neg (by omega)]
    · rw [if_neg (by simpa using h0), if_pos (by omega)]
  rw [e]
  by_cases h0 : 0 ≤ Lib.indexByte t 47
  · rw [if_pos h0, if_pos (by omega), if_pos h0]
    congr 1
    omega
  · rw [if_neg h0, if_neg (by omega), if_neg h0]
theorem slashFrom_end {l : List UInt8} {i : Nat} (hi : l.length ≤ i) : slashFrom l i = none := by
  unfold slashFrom
  rw [List.drop_of_length_le hi]
  simp [Lib.indexByte]
theorem slashFrom_some {l : List UInt8} {i m : Nat} (h : slashFrom l i = some m) : i ≤ m ∧ l[m]? = some 47 := by
  unfold slashFrom at h
  by_cases h0 : 0 ≤ Lib.indexByte (l.drop i) 47
  · rw [if_pos h0] at h
    obtain ⟨n, hn⟩ := Int.eq_ofNat_of_zero_le h0
    rw [hn] at h
    simp only [Int.toNat_natCast, Option.some.injEq] at h
    subst h
    refine ⟨by omega, ?_⟩
    have := (Lib.indexByte_some hn).1
    rwa [List.getElem?_drop] at this
  · rw [if_neg h0] at h; cases h

def noSplit : ByteArray × ByteArray × Bool := (⟨#[]⟩, ⟨#[]⟩, false)
def splitAt (s : ByteArray) : Option Nat → ByteArray × ByteArray × Bool
  | none => noSplit
  | some m => if m > 155 then noSplit else (s.extract 0 m, s.extract (m + 1) s.size, true)
/-- What Split tells. -/
def splitR (s : ByteArray) : ByteArray × ByteArray × Bool :=
  if mayL s.data.toList then (if s.size ≤ 100 then (⟨#[]⟩, s, true) else splitAt s (slashFrom s.data.toList (s.size - 101))) else noSplit

theorem split_f (s : ByteArray) (hs : s.size ≤ 9223372036854775807) : path_Split.f s = some (splitR s) := by
  unfold path_Split.f splitR
  rw [may_f hs]
  simp only [Option.bind_some]
  cases hm : mayL s.data.toList
  · rfl
  simp only [if_true]
  by_cases h1 : s.size ≤ 100
  · rw [if_pos (by omega), if_pos h1]
  have h3 := mayL_size hm
  rw [Array.length_toList] at h3
  have h4 : s.size ≤ 300 := h3
  rw [if_neg (by omega), if_neg h1]
  have e1 : wrap64 (wrap64 ((s.size : Int) - 100) - 1) = ((s.size - 101 : Nat) : Int) := by rw [wrap_id (x := (s.size : Int) - 100) (by omega) (by omega), wrap_id (by omega) (by omega)]; omega
  rw [e1, if_pos (by omega), if_pos (by omega)]
  unfold strings_IndexByte.f
  simp only [Option.bind_some, Int.toNat_natCast]
  rw [Lib.extract_to_end]
  rw [show (Int.toNat 47).toUInt8 = 47 from rfl]
  by_cases h0 : Lib.indexByte (s.data.toList.drop (s.size - 101)) 47 < 0
  · rw [if_pos h0]
    unfold slashFrom
    rw [if_neg (by omega)]
    rfl
  rw [if_neg h0]
  obtain ⟨n, hn⟩ := Int.eq_ofNat_of_zero_le (Int.not_lt.1 h0)
  have hlt := indexByte_lt hn
  rw [List.length_drop, Array.length_toList] at hlt
  have hlt2 : n < s.size - (s.size - 101) := hlt
  have e2 : slashFrom s.data.toList (s.size - 101) = some (s.size - 101 + n) := by
    unfold slashFrom
    rw [hn, if_pos (by omega)]
    simp
  rw [e2, hn]
  unfold splitAt
  have e3 : wrap64 (((s.size - 101 : Nat) : Int) + (n : Int)) = ((s.size - 101 + n : Nat) : Int) := by rw [wrap_id (by omega) (by omega)]; omega
  have e4 : wrap64 (((s.size - 101 + n : Nat) : Int) + 1) = ((s.size - 101 + n + 1 : Nat) : Int) := by rw [wrap_id (by omega) (by omega)]; omega
  rw [e3, e4]
  by_cases h5 : s.size - 101 + n > 155
  · rw [if_pos (by omega)]
    simp only [h5, if_true]
    rfl
  · rw [if_neg (by omega), if_pos (by omega), if_pos (by omega), if_pos (by omega), if_pos (by omega)]
    simp only [h5, if_false, Int.toNat_natCast]

theorem Ev.of_eq {α : Type} {g : Nat → Option α} {r : α} (h : ∀ k, g k = some r) : Ev g r := ⟨0, fun k _ => h k⟩
theorem Ev.if_pos {α : Type} {c : Prop} [Decidable c] {a b : Nat → Option α} {r : α} (hc : c) (h : Ev a r) : Ev (fun k => if c then a k else b k) r := by simpa only [_root_.if_pos hc] using h
theorem Ev.if_neg {α : Type} {c : Prop} [Decidable c] {a b : Nat → Option α} {r : α} (hc : ¬ c) (h : Ev b r) : Ev (fun k => if c then a k else b k) r := by simpa only [_root_.if_neg hc] using h

def toA (l : List UInt8) : ByteArray := ⟨l.toArray⟩
theorem toA_data (l : List UInt8) : (toA l).data.toList = l := rfl
theorem splitA_def (s : ByteArray) : splitA s = (splitL s.data.toList).map toA := rfl
/-- A text in front of the first piece. -/
def onto (x : List UInt8) (ll : List (List UInt8)) : List (List UInt8) := match ll with
  | [] => [x]
  | h :: t => (x ++ h) :: t
theorem onto_split (x : List UInt8) (c : UInt8) (hc : c ≠ 47) (l : List UInt8) : onto x (splitL (c :: l)) = onto (x ++ [c]) (splitL l) := by
  obtain ⟨h, t, h1, h2⟩ := splitL_cons hc l
  rw [h1, h2]
  simp [onto]
theorem onto_slash (x : List UInt8) (l : List UInt8) : onto x (splitL (47 :: l)) = x :: splitL l := by rw [splitL_slash]; simp [onto]
theorem onto_nil (l : List UInt8) : onto [] (splitL l) = splitL l := by
  cases h : splitL l with
  | nil => exact absurd h (splitL_ne l)
  | cons a t => rfl

theorem pieces_ev (s : ByteArray) (hs : s.size ≤ 4398046511104) (d : Nat) : ∀ (i : Nat) (acc : List ByteArray) (x : ByteArray), i + d = s.size → acc.length ≤ i → x.size ≤ i →
    Ev (fun k => reelkeeperref02_pieces.l0 k s acc x (i : Int)) (acc ++ (onto x.data.toList (splitL (s.data.toList.drop i))).map toA) := by
  induction d with
  | zero =>
    intro i acc x hi ha hx
    refine Ev.step (fun _ => rfl) ?_
    simp only [reelkeeperref02_pieces.l0]
    refine Ev.of_eq fun k => ?_
    rw [_root_.if_neg (by omega), _root_.if_pos (by omega), List.drop_of_length_le (by rw [Array.length_toList]; show s.size ≤ i; omega)]
    simp [splitL, onto, toA]
  | succ d ih =>
    intro i acc x hi ha hx
    have hlt : i < s.size := by omega
    obtain ⟨c, h1, h2⟩ := bt_some hlt
    have hl := (List.getElem?_eq_some_iff.1 h1).1
    have hd : s.data.toList.drop i = c :: s.data.toList.drop (i + 1) := by
      rw [List.drop_eq_getElem_cons hl]
      rw [List.getElem?_eq_getElem hl] at h1
      rw [Option.some.inj h1]
    refine Ev.step (fun _ => rfl) ?_
    simp only [reelkeeperref02_pieces.l0]
    refine Ev.if_pos (by omega) (Ev.if_pos (by omega) ?_)
    have hw : wrap64 ((i : Int) + 1) = ((i + 1 : Nat) : Int) := by rw [wrap_id (by omega) (by omega)]; omega
    rw [hw, hd]
    by_cases hc : bt s (i : Int) = 47
    · have hc2 : c = 47 := by
        have := (bt_is hlt 47).1 hc
        rw [h1] at this
        exact Option.some.inj this
      subst hc2
      refine Ev.if_pos hc (Ev.if_pos (by omega) ?_)
      have := ih (i + 1) (acc ++ [x]) ⟨#[]⟩ (by omega) (by simp; omega) (by show 0 ≤ _; omega)
      rw [onto_slash]
      simp only [List.append_assoc, List.map_cons] at this ⊢
      have e : onto (ByteArray.mk #[]).data.toList (splitL (s.data.toList.drop (i + 1))) = splitL (s.data.toList.drop (i + 1)) := onto_nil _
      rw [e] at this
      exact this
    · have hc2 : c ≠ 47 := by
        rintro rfl
        exact hc ((bt_is hlt 47).2 h1)
      have e : (s.extract i (i + 1)).data.toList = [c] := by
        rw [Lib.extract_data, hd]
        simp
      have e2 : (x ++ s.extract i (i + 1)).data.toList = x.data.toList ++ [c] := by rw [app_data, e]
      have e3 : (s.extract i (i + 1)).size = 1 := by rw [ByteArray.size_extract]; omega
      refine Ev.if_neg hc (Ev.if_pos (by omega) (Ev.if_pos (by omega) ?_))
      simp only [Int.toNat_natCast]
      refine Ev.if_pos (by rw [e3]; omega) ?_
      have := ih (i + 1) acc (x ++ s.extract i (i + 1)) (by omega) (by omega) (by rw [ByteArray.size_append, e3]; omega)
      rw [onto_split _ _ hc2, ← e2]
      exact this

theorem ref_pieces (s : ByteArray) (hs : s.size ≤ 4398046511104) : Ev (fun k => reelkeeperref02_pieces.f k s) (splitA s) := by
  have := pieces_ev s hs s.size 0 [] ⟨#[]⟩ (by omega) (by simp) (Nat.le_refl _)
  simp only [List.nil_append, List.drop_zero] at this
  rw [onto_nil] at this
  exact this

theorem may_loop (l : List ByteArray) (hl : l.length ≤ 4398046511105) (d : Nat) : ∀ i : Nat, i + d = l.length →
    Ev (fun k => reelkeeperref02_May.l1 k l (i : Int)) ((l.drop i).all fun x => !oddL x.data.toList) := by
  induction d with
  | zero =>
    intro i hi
    refine Ev.step (fun _ => rfl) ?_
    simp only [reelkeeperref02_May.l1]
    refine Ev.of_eq fun k => ?_
    rw [_root_.if_neg (by omega), List.drop_of_length_le (by omega)]
    rfl
  | succ d ih =>
    intro i hi
    have hlt : i < l.length := by omega
    refine Ev.step (fun _ => rfl) ?_
    simp only [reelkeeperref02_May.l1]
    refine Ev.if_pos (by omega) (Ev.if_pos (by omega) ?_)
    have hw : wrap64 ((i : Int) + 1) = ((i + 1 : Nat) : Int) := by rw [wrap_id (by omega) (by omega)]; omega
    have hg : rdOf ByteArray.empty l (i : Int) = l[i] := by unfold rdOf; simp [List.getD, List.getElem?_eq_getElem hlt]
    rw [hw, hg, Lib.toList_data, List.drop_eq_getElem_cons hlt, List.all_cons]
    unfold oddL
    by_cases h1 : l[i].data.toList = []
    · refine Ev.if_pos h1 (Ev.of_eq fun k => by rw [h1]; rfl)
    refine Ev.if_neg h1 ?_
    by_cases h2 : l[i].data.toList = [46]
    · refine Ev.if_pos h2 (Ev.of_eq fun k => by rw [h2]; rfl)
    refine Ev.if_neg h2 ?_
    by_cases h3 : l[i].data.toList = [46, 46]
    · refine Ev.if_pos h3 (Ev.of_eq fun k => by rw [h3]; rfl)
    refine Ev.if_neg h3 ?_
    have e : (!(l[i].data.toList == [] || l[i].data.toList == [46] || l[i].data.toList == [46, 46])) = true := by
      rw [beq_eq_false_iff_ne.2 h1, beq_eq_false_iff_ne.2 h2, beq_eq_false_iff_ne.2 h3]; rfl
    rw [e, Bool.true_and]
    exact ih (i + 1) (by omega)

theorem may_bytes (s : ByteArray) (hs : s.size ≤ 4398046511104) (d : Nat) : ∀ i : Nat, i + d = s.size →
    Ev (fun k => reelkeeperref02_May.l0 k s (i : Int)) (!(s.data.toList.drop i).contains 0 && (splitL s.data.toList).all fun x => !oddL x) := by
  induction d with
  | zero =>
    intro i hi
    refine Ev.step (fun _ => rfl) ?_
    simp only [reelkeeperref02_May.l0]
    refine Ev.if_neg (by omega) (Ev.bind (ref_pieces s hs) ?_)
    have := may_loop (splitA s) (by have := splitA_length s; omega) (splitA s).length 0 (by omega)
    rw [List.drop_of_length_le (by rw [Array.length_toList]; show s.size ≤ i; omega)]
    simp only [List.drop_zero, splitA_def, List.all_map] at this ⊢
    simpa [Function.comp_def, toA_data] using this
  | succ d ih =>
    intro i hi
    have hlt : i < s.size := by omega
    obtain ⟨c, h1, h2⟩ := bt_some hlt
    have hl := (List.getElem?_eq_some_iff.1 h1).1
    have hd : s.data.toList.drop i = c :: s.data.toList.drop (i + 1) := by
      rw [List.drop_eq_getElem_cons hl]
      rw [List.getElem?_eq_getElem hl] at h1
      rw [Option.some.inj h1]
    refine Ev.step (fun _ => rfl) ?_
    simp only [reelkeeperref02_May.l0]
    refine Ev.if_pos (by omega) (Ev.if_pos (by omega) ?_)
    have hw : wrap64 ((i : Int) + 1) = ((i + 1 : Nat) : Int) := by rw [wrap_id (by omega) (by omega)]; omega
    rw [hw, hd, h2]
    by_cases hc : c = 0
    · subst hc
      exact Ev.if_pos rfl (Ev.of_eq fun k => by simp)
    · refine Ev.if_neg (fun e => hc (UInt8.toNat_inj.1 (by simpa using e))) ?_
      have e : (c :: s.data.toList.drop (i + 1)).contains 0 = (s.data.toList.drop (i + 1)).contains 0 := by
        rw [List.contains_cons]
        have : ((0 : UInt8) == c) = false := by simpa using fun e => hc e.symm
        rw [this, Bool.false_or]
      rw [e]
      exact ih (i + 1) (by omega)

theorem ref_may (s : ByteArray) (hs : s.size ≤ 4398046511104) : Ev (fun k => reelkeeperref02_May.f k s) (mayL s.data.toList) := by
  unfold reelkeeperref02_May.f
  by_cases h1 : (s.size : Int) < 1
  · have e : s.data.toList = [] := List.eq_nil_of_length_eq_zero (by rw [Array.length_toList]; show s.size = 0; omega)
    refine Ev.if_pos h1 (Ev.step (fun _ => rfl) ?_)
    simp only [reelkeeperref02_May.j0]
    exact Ev.of_eq fun k => by rw [_root_.if_pos trivial, e]; rfl
  · refine Ev.if_neg h1 (Ev.step (fun _ => rfl) ?_)
    simp only [reelkeeperref02_May.j0]
    have hz : s.data.toList.length = s.size := Array.length_toList
    by_cases h2 : (s.size : Int) > 300
    · refine Ev.if_pos (by simp; omega) (Ev.of_eq fun k => ?_)
      unfold mayL
      rw [hz, show decide (s.size ≤ 300) = false from decide_eq_false (by omega)]
      simp
    · refine Ev.if_neg (by simp; omega) ?_
      have := may_bytes s hs s.size 0 (by omega)
      unfold mayL
      rw [hz, show decide (s.size ≤ 300) = true from decide_eq_true (by omega), Bool.true_and, Bool.and_comm]
      simpa using this

theorem ref_parts (s : ByteArray) (hs : s.size ≤ 4398046511104) : Ev (fun k => reelkeeperref02_Parts.f k s) (if mayL s.data.toList then splitA s else []) := by
  unfold reelkeeperref02_Parts.f
  refine Ev.bind (ref_may s hs) ?_
  cases mayL s.data.toList
  · exact Ev.of_eq fun k => rfl
  · exact Ev.bind (ref_pieces s hs) (Ev.of_eq fun k => rfl)

theorem ref_join {a b : ByteArray} (h : a.size + b.size + 1 ≤ 9223372036854775807) : reelkeeperref02_Join.f a b = path_Join.f a b := rfl

theorem ref_below {a b : ByteArray} (ha : a.size ≤ 4398046511104) (hb : b.size ≤ 4398046511104) : Ev (fun k => reelkeeperref02_Below.f k a b) (belowL a.data.toList b.data.toList) := by
  unfold reelkeeperref02_Below.f belowL
  refine Ev.bind (ref_may a ha) (Ev.bind (ref_may b hb) ?_)
  cases mayL a.data.toList
  · exact Ev.of_eq fun k => rfl
  cases mayL b.data.toList
  · exact Ev.of_eq fun k => rfl
  refine Ev.if_pos rfl (Ev.if_pos rfl ?_)
  have e : (b ++ (⟨#[47]⟩ : ByteArray)).data.toList = b.data.toList ++ [47] := app_data _ _
  have ew : wrap64 ((b.size : Int) + 1) = ((b.size + 1 : Nat) : Int) := by rw [wrap_id (by omega) (by omega)]; omega
  rw [ew]
  by_cases h : a.size > b.size
  · refine Ev.if_pos (by omega) (Ev.if_pos (by omega) (Ev.if_pos (by omega) (Ev.if_pos (by omega) (Ev.of_eq fun k => ?_))))
    congr 1
    rw [Lib.toList_data, Lib.toList_data, Lib.extract_data, e]
    simp only [Int.toNat_natCast, Nat.sub_zero, List.drop_zero, Bool.true_and]
    rw [Bool.eq_iff_iff, List.isPrefixOf_iff_prefix, List.prefix_iff_eq_take, beq_iff_eq]
    simp only [List.length_append, Array.length_toList, List.length_cons, List.length_nil]
    exact eq_comm
  · refine Ev.if_neg (by omega) (Ev.of_eq fun k => ?_)
    congr 1
    symm
    rw [Bool.true_and, Bool.true_and, Bool.eq_false_iff]
    intro h2
    have := (List.isPrefixOf_iff_prefix.1 h2).length_le
    simp only [List.length_append, Array.length_toList, List.length_cons, List.length_nil] at this
    exact h this

theorem split_last {l : List UInt8} : ∃ (ll : List (List UInt8)) (y : List UInt8), splitL l = ll ++ [y] ∧ (47 : UInt8) ∉ y ∧ ((ll = [] ∧ l = y) ∨ ∃ x, ll = splitL x ∧ l = x ++ 47 :: y) := by
  by_cases h : (47 : UInt8) ∈ l
  · have : ∃ x y, l = x ++ 47 :: y ∧ (47 : UInt8) ∉ y := by
      induction l with
      | nil => cases h
      | cons c l ih =>
        by_cases h2 : (47 : UInt8) ∈ l
        · obtain ⟨x, y, e, hy⟩ := ih h2
          exact ⟨c :: x, y, by rw [e]; rfl, hy⟩
        · rcases List.mem_cons.1 h with rfl | h3
          · exact ⟨[], l, rfl, h2⟩
          · exact absurd h3 h2
    obtain ⟨x, y, rfl, hy⟩ := this
    exact ⟨splitL x, y, by rw [splitL_append, splitL_one hy], hy, .inr ⟨x, rfl, rfl⟩⟩
  · exact ⟨[], l, splitL_one h, h, .inl ⟨rfl, rfl⟩⟩

theorem ref_parent (s : ByteArray) (hs : s.size ≤ 4398046511104) : ∃ r, Ev (fun k => reelkeeperref02_Parent.f k s) r ∧ IsParent s r := by
  unfold reelkeeperref02_Parent.f
  cases hm : mayL s.data.toList
  · refine ⟨(⟨#[]⟩, false), Ev.bind (ref_parts s hs) ?_, .inl ⟨rfl, fun h => by rw [hm] at h; cases h⟩⟩
    rw [hm]
    exact Ev.of_eq fun k => rfl
  · obtain ⟨ll, y, h1, hy, h2⟩ := split_last (l := s.data.toList)
    have hp : Ev (fun k => reelkeeperref02_Parts.f k s) (splitA s) := by have := ref_parts s hs; rwa [hm] at this
    have hA : splitA s = ll.map toA ++ [toA y] := by rw [splitA_def, h1, List.map_append]; rfl
    have hlen := splitA_length s
    have hz : s.data.toList.length = s.size := Array.length_toList
    rcases h2 with ⟨rfl, h2⟩ | ⟨x, rfl, h2⟩
    · refine ⟨(⟨#[]⟩, false), Ev.bind hp ?_, .inl ⟨rfl, fun _ => by rw [h2]; exact hy⟩⟩
      rw [hA]
      exact Ev.of_eq fun k => rfl
    · have hl1 : 0 < (splitL x).length := List.length_pos_iff.2 (splitL_ne x)
      have hx : x.length + y.length + 1 = s.size := by rw [← hz, h2]; simp; omega
      refine ⟨(s.extract 0 x.length, true), Ev.bind hp ?_, .inr ⟨rfl, hm, y, ?_, hy⟩⟩
      · have hL : (splitA s).length = (splitL x).length + 1 := by rw [hA]; simp
        have ew : wrap64 (((splitA s).length : Int) - 1) = ((splitL x).length : Int) := by rw [wrap_id (by omega) (by omega)]; omega
        have hg : rdOf ByteArray.empty (splitA s) ((splitL x).length : Int) = toA y := by
          unfold rdOf
          rw [hA]
          simp [List.getD]
        have hys : (toA y).size = y.length := by show y.toArray.size = _; simp
        rw [ew, hg, hys]
        have ew2 : wrap64 (wrap64 ((s.size : Int) - (y.length : Int)) - 1) = (x.length : Int) := by
          rw [wrap_id (x := (s.size : Int) - (y.length : Int)) (by omega) (by omega), wrap_id (by omega) (by omega)]; omega
        rw [ew2]
        refine Ev.if_neg (by omega) (Ev.if_pos (by omega) (Ev.if_pos (by omega) (Ev.if_pos (by omega) (Ev.if_pos (by omega) (Ev.of_eq fun k => ?_)))))
        simp
      · have e : (s.extract 0 x.length).data.toList = s.data.toList.take x.length := by rw [Lib.extract_data]; simp
        show s.data.toList = (s.extract 0 x.length).data.toList ++ 47 :: y
        rw [e]
        conv => rhs; rw [h2]
        rw [List.take_left]
        exact h2

theorem ref_split_loop (s : ByteArray) (hs : s.size ≤ 300) (h1 : 100 < s.size) (d : Nat) : ∀ i : Nat, i + d = s.size →
    Ev (fun k => reelkeeperref02_Split.l0 k s (i : Int)) (splitAt s (slashFrom s.data.toList (max i (s.size - 101)))) := by
  have hz : s.data.toList.length = s.size := Array.length_toList
  induction d with
  | zero =>
    intro i hi
    refine Ev.step (fun _ => rfl) ?_
    simp only [reelkeeperref02_Split.l0]
    rw [show max i (s.size - 101) = i by omega, slashFrom_end (by omega)]
    exact Ev.if_neg (by omega) (Ev.now _)
  | succ d ih =>
    intro i hi
    have hlt : i < s.size := by omega
    refine Ev.step (fun _ => rfl) ?_
    simp only [reelkeeperref02_Split.l0]
    refine Ev.if_pos (by omega) (Ev.if_pos (by omega) ?_)
    have hw : wrap64 ((i : Int) + 1) = ((i + 1 : Nat) : Int) := by rw [wrap_id (by omega) (by omega)]; omega
    have hw2 : wrap64 (wrap64 ((s.size : Int) - (i : Int)) - 1) = (s.size : Int) - i - 1 := by
      rw [wrap_id (x := (s.size : Int) - (i : Int)) (by omega) (by omega), wrap_id (by omega) (by omega)]
    rw [hw2]
    have hnext : Ev (fun k => reelkeeperref02_Split.j1 k s (i : Int) false) (splitAt s (slashFrom s.data.toList (max (i + 1) (s.size - 101)))) := by
      refine Ev.step (fun _ => rfl) ?_
      simp only [reelkeeperref02_Split.j1]
      refine Ev.if_neg (by simp) ?_
      rw [hw]
      exact ih (i + 1) (by omega)
    by_cases hc : bt s (i : Int) = 47
    · have hq := (bt_is hlt 47).1 hc
      refine Ev.if_pos hc ?_
      by_cases h2 : (s.size : Int) - i - 1 ≤ 100
      · rw [show max i (s.size - 101) = i by omega, slashFrom_here hq, decide_eq_true h2]
        refine Ev.step (fun _ => rfl) ?_
        simp only [reelkeeperref02_Split.j1]
        refine Ev.if_pos trivial ?_
        rw [hw]
        unfold splitAt
        by_cases h3 : i > 155
        · refine Ev.if_pos (by omega) (Ev.of_eq fun k => ?_)
          simp only [h3, if_true]
          rfl
        · refine Ev.if_neg (by omega) (Ev.if_pos (by omega) (Ev.if_pos (by omega) (Ev.if_pos (by omega) (Ev.if_pos (by omega) (Ev.of_eq fun k => ?_)))))
          simp only [h3, if_false, Int.toNat_natCast]
      · rw [decide_eq_false h2, show max i (s.size - 101) = max (i + 1) (s.size - 101) by omega]
        exact hnext
    · refine Ev.if_neg hc ?_
      have hq : s.data.toList[i]? ≠ some 47 := fun e => hc ((bt_is hlt 47).2 e)
      by_cases h2 : s.size - 101 ≤ i
      · rw [show max i (s.size - 101) = i by omega, slashFrom_next (by omega) hq]
        rw [show max (i + 1) (s.size - 101) = i + 1 by omega] at hnext
        exact hnext
      · rw [show max i (s.size - 101) = max (i + 1) (s.size - 101) by omega]
        exact hnext

theorem ref_split (s : ByteArray) (hs : s.size ≤ 4398046511104) : Ev (fun k => reelkeeperref02_Split.f k s) (splitR s) := by
  unfold reelkeeperref02_Split.f splitR
  refine Ev.bind (ref_may s hs) ?_
  cases hm : mayL s.data.toList
  · exact Ev.of_eq fun k => rfl
  have h3 := mayL_size hm
  have hz : s.data.toList.length = s.size := Array.length_toList
  refine Ev.if_pos rfl ?_
  simp only [if_true]
  by_cases h1 : s.size ≤ 100
  · rw [_root_.if_pos h1]
    exact Ev.if_pos (by omega) (Ev.now _)
  · rw [_root_.if_neg h1]
    refine Ev.if_neg (by omega) ?_
    have := ref_split_loop s (by omega) (by omega) s.size 0 (by omega)
    rw [show max 0 (s.size - 101) = s.size - 101 by omega] at this
    exact this

theorem texts_loop (l : List ByteArray) (hl : l.length ≤ 4398046511105) (d : Nat) : ∀ i : Nat, i + d = l.length → Ev (fun k => reelkeeperref02_Texts.l0 k l l (i : Int)) true := by
  induction d with
  | zero =>
    intro i hi
    refine Ev.step (fun _ => rfl) ?_
    simp only [reelkeeperref02_Texts.l0]
    exact Ev.if_neg (by omega) (Ev.now _)
  | succ d ih =>
    intro i hi
    refine Ev.step (fun _ => rfl) ?_
    simp only [reelkeeperref02_Texts.l0]
    have hw : wrap64 ((i : Int) + 1) = ((i + 1 : Nat) : Int) := by rw [wrap_id (by omega) (by omega)]; omega
    rw [hw]
    exact Ev.if_pos (by omega) (Ev.if_pos (by omega) (Ev.if_pos (by omega) (Ev.if_pos trivial (ih (i + 1) (by omega)))))

theorem texts_same (l : List ByteArray) (hl : l.length ≤ 4398046511105) : Ev (fun k => reelkeeperref02_Texts.f k l l) true := by
  unfold reelkeeperref02_Texts.f
  exact Ev.if_pos rfl (texts_loop l hl l.length 0 (by omega))

end Go.Proofs.Ytachobpnpfkmjaa.X
