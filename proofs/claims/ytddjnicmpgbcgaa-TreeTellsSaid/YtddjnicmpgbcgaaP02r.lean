/- Paths, plainly: what May, Below and Parent of package reelkeeperref02 compute. -/
import Derived.Test.YtddjnicmpgbcgaaXK
import Derived.Test.YtddjnicmpgbcgaaXGpath
import Derived.Test.YtddjnicmpgbcgaaXGpath
import Derived.Test.YtddjnicmpgbcgaaXGreelkeeperref02
import Derived.Test.YtddjnicmpgbcgaaXGreelkeeperref02
import Derived.Test.YtddjnicmpgbcgaaXGreelkeeperref02
import Derived.Test.YtddjnicmpgbcgaaYPath
import Derived.Test.YtddjnicmpgbcgaaP02m
import Derived.Lib.IndexAny
namespace Go.Proofs.Ytddjnicmpgbcgaa.X
open Go.RowKit Go.Proofs.YtddjnicmpgbcgaaW.PrintWords Go.Proofs.YtddjnicmpgbcgaaW.PrintLast Go.Proofs.YtddjnicmpgbcgaaW.PrintMore
attribute [local go_sem] max2_int min2_int max_two min_two max_three min_three max_four min_four
set_option linter.unusedVariables false
set_option linter.unusedSimpArgs false

open Go.Proofs.YtddjnicmpgbcgaaY

def toA (l : List UInt8) : ByteArray := ⟨l.toArray⟩
theorem toA_data (l : List UInt8) : (toA l).data.toList = l := rfl
theorem splitA_def (s : ByteArray) : splitA s = (splitL s.data.toList).map toA := rfl
/-- A text in front of the first piece. -/
def onto (x : List UInt8) (ll : List (List UInt8)) : List (List UInt8) := match ll with
  | [] => [x]
  | h :: t => (x ++ h) :: t
theorem onto_split (x : List UInt8) (c : UInt8) (hc : c ≠ 47) (l : List UInt8) : onto x (splitL (c :: l)) = onto (x ++ [c]) (splitL l) := by
  obtain ⟨h, t, h1, h2⟩ := splitL_cons hc l
  rw [h1, h2]
  simp [onto]
theorem onto_slash (x : List UInt8) (l : List UInt8) : onto x (splitL (47 :: l)) = x :: splitL l := by rw [splitL_slash]; simp [onto]
theorem onto_nil (l : List UInt8) : onto [] (splitL l) = splitL l := by
  cases h : splitL l with
  | nil => exact absurd h (splitL_ne l)
  | cons a t => rfl

theorem pieces_ev (s : ByteArray) (hs : s.size ≤ 4398046511104) (d : Nat) : ∀ (i : Nat) (acc : List ByteArray) (x : ByteArray), i + d = s.size → acc.length ≤ i → x.size ≤ i →
    Ev (fun k => reelkeeperref02_pieces.l0 k s acc x (i : Int)) (acc ++ (onto x.data.toList (splitL (s.data.toList.drop i))).map toA) := by
  induction d with
  | zero =>
    intro i acc x hi ha hx
    refine Ev.step (fun _ => rfl) ?_
    simp only [reelkeeperref02_pieces.l0]
    refine Ev.of_eq fun k => ?_
    rw [_root_.if_neg (by omega), _root_.if_pos (by omega), List.drop_of_length_le (by rw [Array.length_toList]; show s.size ≤ i; omega)]
    simp [splitL, onto, toA]
  | succ d ih =>
    intro i acc x hi ha hx
    have hlt : i < s.size := by omega
    obtain ⟨c, h1, h2⟩ := bt_some hlt
    have hl := (List.getElem?_eq_some_iff.1 h1).1
    have hd : s.data.toList.drop i = c :: s.data.toList.drop (i + 1) := by
      rw [List.drop_eq_getElem_cons hl]
      rw [List.getElem?_eq_getElem hl] at h1
      rw [Option.some.inj h1]
    refine Ev.step (fun _ => rfl) ?_
    simp only [reelkeeperref02_pieces.l0]
    refine Ev.if_pos (by omega) (Ev.if_pos (by omega) ?_)
    have hw : wrap64 ((i : Int) + 1) = ((i + 1 : Nat) : Int) := by rw [wrap_id (by omega) (by omega)]; omega
    rw [hw, hd]
    by_cases hc : bt s (i : Int) = 47
    · have hc2 : c = 47 := by
        have := (bt_is hlt 47).1 hc
        rw [h1] at this
        exact Option.some.inj this
      subst hc2
      refine Ev.if_pos hc (Ev.if_pos (by omega) ?_)
      have := ih (i + 1) (acc ++ [x]) ⟨#[]⟩ (by omega) (by simp; omega) (by show 0 ≤ _; omega)
      rw [onto_slash]
      simp only [List.append_assoc, List.map_cons] at this ⊢
      have e : onto (ByteArray.mk #[]).data.toList (splitL (s.data.toList.drop (i + 1))) = splitL (s.data.toList.drop (i + 1)) := onto_nil _
      rw [e] at this
      exact this
    · have hc2 : c ≠ 47 := by
        rintro rfl
        exact hc ((bt_is hlt 47).2 h1)
      have e : (s.extract i (i + 1)).data.toList = [c] := by
        rw [Lib.extract_data, hd]
        simp
      have e2 : (x ++ s.extract i (i + 1)).data.toList = x.data.toList ++ [c] := by rw [app_data, e]
      have e3 : (s.extract i (i + 1)).size = 1 := by rw [ByteArray.size_extract]; omega
      refine Ev.if_neg hc (Ev.if_pos (by omega) (Ev.if_pos (by omega) ?_))
      simp only [Int.toNat_natCast]
      refine Ev.if_pos (by rw [e3]; omega) ?_
      have := ih (i + 1) acc (x ++ s.extract i (i + 1)) (by omega) (by omega) (by rw [ByteArray.size_append, e3]; omega)
      rw [onto_split _ _ hc2, ← e2]
      exact this

theorem ref_pieces (s : ByteArray) (hs : s.size ≤ 4398046511104) : Ev (fun k => reelkeeperref02_pieces.f k s) (splitA s) := by
  have := pieces_ev s hs s.size 0 [] ⟨#[]⟩ (by omega) (by simp) (Nat.le_refl _)
  simp only [List.nil_append, List.drop_zero] at this
  rw [onto_nil] at this
  exact this

theorem may_loop (l : List ByteArray) (hl : l.length ≤ 4398046511105) (d : Nat) : ∀ i : Nat, i + d = l.length →
    Ev (fun k => reelkeeperref02_May.l1 k l (i : Int)) ((l.drop i).all fun x => !oddL x.data.toList) := by
  induction d with
  | zero =>
    intro i hi
    refine Ev.step (fun _ => rfl) ?_
    simp only [reelkeeperref02_May.l1]
    refine Ev.of_eq fun k => ?_
    rw [_root_.if_neg (by omega), List.drop_of_length_le (by omega)]
    rfl
  | succ d ih =>
    intro i hi
    have hlt : i < l.length := by omega
    refine Ev.step (fun _ => rfl) ?_
    simp only [reelkeeperref02_May.l1]
    refine Ev.if_pos (by omega) (Ev.if_pos (by omega) ?_)
    have hw : wrap64 ((i : Int) + 1) = ((i + 1 : Nat) : Int) := by rw [wrap_id (by omega) (by omega)]; omega
    have hg : rdOf ByteArray.empty l (i : Int) = l[i] := by unfold rdOf; simp [List.getD, List.getElem?_eq_getElem hlt]
    rw [hw, hg, Lib.toList_data, List.drop_eq_getElem_cons hlt, List.all_cons]
    unfold oddL
    by_cases h1 : l[i].data.toList = []
    · refine Ev.if_pos h1 (Ev.of_eq fun k => by rw [h1]; rfl)
    refine Ev.if_neg h1 ?_
    by_cases h2 : l[i].data.toList = [46]
    · refine Ev.if_pos h2 (Ev.of_eq fun k => by rw [h2]; rfl)
    refine Ev.if_neg h2 ?_
    by_cases h3 : l[i].data.toList = [46, 46]
    · refine Ev.if_pos h3 (Ev.of_eq fun k => by rw [h3]; rfl)
    refine Ev.if_neg h3 ?_
    have e : (!(l[i].data.toList == [] || l[i].data.toList == [46] || l[i].data.toList == [46, 46])) = true := by
      rw [beq_eq_false_iff_ne.2 h1, beq_eq_false_iff_ne.2 h2, beq_eq_false_iff_ne.2 h3]; rfl
    rw [e, Bool.true_and]
    exact ih (i + 1) (by omega)

theorem may_bytes (s : ByteArray) (hs : s.size ≤ 4398046511104) (d : Nat) : ∀ i : Nat, i + d = s.size →
    Ev (fun k => reelkeeperref02_May.l0 k s (i : Int)) (!(s.data.toList.drop i).contains 0 && (splitL s.data.toList).all fun x => !oddL x) := by
  induction d with
  | zero =>
    intro i hi
    refine Ev.step (fun _ => rfl) ?_
    simp only [reelkeeperref02_May.l0]
    refine Ev.if_neg (by omega) (Ev.bind (ref_pieces s hs) ?_)
    have := may_loop (splitA s) (by have := splitA_length s; omega) (splitA s).length 0 (by omega)
    rw [List.drop_of_length_le (by rw [Array.length_toList]; show s.size ≤ i; omega)]
    simp only [List.drop_zero, splitA_def, List.all_map] at this ⊢
    simpa [Function.comp_def, toA_data] using this
  | succ d ih =>
    intro i hi
    have hlt : i < s.size := by omega
    obtain ⟨c, h1, h2⟩ := bt_some hlt
    have hl := (List.getElem?_eq_some_iff.1 h1).1
    have hd : s.data.toList.drop i = c :: s.data.toList.drop (i + 1) := by
      rw [List.drop_eq_getElem_cons hl]
      rw [List.getElem?_eq_getElem hl] at h1
      rw [Option.some.inj h1]
    refine Ev.step (fun _ => rfl) ?_
    simp only [reelkeeperref02_May.l0]
    refine Ev.if_pos (by omega) (Ev.if_pos (by omega) ?_)
    have hw : wrap64 ((i : Int) + 1) = ((i + 1 : Nat) : Int) := by rw [wrap_id (by omega) (by omega)]; omega
    rw [hw, hd, h2]
    by_cases hc : c = 0
    · subst hc
      exact Ev.if_pos rfl (Ev.of_eq fun k => by simp)
    · refine Ev.if_neg (fun e => hc (UInt8.toNat_inj.1 (by simpa using e))) ?_
      have e : (c :: s.data.toList.drop (i + 1)).contains 0 = (s.data.toList.drop (i + 1)).contains 0 := by
        rw [List.contains_cons]
        have : ((0 : UInt8) == c) = false := by simpa using fun e => hc e.symm
        rw [this, Bool.false_or]
      rw [e]
      exact ih (i + 1) (by omega)

theorem ref_may (s : ByteArray) (hs : s.size ≤ 4398046511104) : Ev (fun k => reelkeeperref02_May.f k s) (mayL s.data.toList) := by
  unfold reelkeeperref02_May.f
  by_cases h1 : (s.size : Int) < 1
  · have e : s.data.toList = [] := List.eq_nil_of_length_eq_zero (by rw [Array.length_toList]; show s.size = 0; omega)
    refine Ev.if_pos h1 (Ev.step (fun _ => rfl) ?_)
    simp only [reelkeeperref02_May.j0]
    exact Ev.of_eq fun k => by rw [_root_.if_pos trivial, e]; rfl
  · refine Ev.if_neg h1 (Ev.step (fun _ => rfl) ?_)
    simp only [reelkeeperref02_May.j0]
    have hz : s.data.toList.length = s.size := Array.length_toList
    by_cases h2 : (s.size : Int) > 300
    · refine Ev.if_pos (by simp; omega) (Ev.of_eq fun k => ?_)
      unfold mayL
      rw [hz, show decide (s.size ≤ 300) = false from decide_eq_false (by omega)]
      simp
    · refine Ev.if_neg (by simp; omega) ?_
      have := may_bytes s hs s.size 0 (by omega)
      unfold mayL
      rw [hz, show decide (s.size ≤ 300) = true from decide_eq_true (by omega), Bool.true_and, Bool.and_comm]
      simpa using this

theorem ref_parts (s : ByteArray) (hs : s.size ≤ 4398046511104) : Ev (fun k => reelkeeperref02_Parts.f k s) (if mayL s.data.toList then splitA s else []) := by
  unfold reelkeeperref02_Parts.f
  refine Ev.bind (ref_may s hs) ?_
  cases mayL s.data.toList
  · exact Ev.of_eq fun k => rfl
  · exact Ev.bind (ref_pieces s hs) (Ev.of_eq fun k => rfl)

theorem ref_below {a b : ByteArray} (ha : a.size ≤ 4398046511104) (hb : b.size ≤ 4398046511104) : Ev (fun k => reelkeeperref02_Below.f k a b) (belowL a.data.toList b.data.toList) := by
  unfold reelkeeperref02_Below.f belowL
  refine Ev.bind (ref_may a ha) (Ev.bind (ref_may b hb) ?_)
  cases mayL a.data.toList
  · exact Ev.of_eq fun k => rfl
  cases mayL b.data.toList
  · exact Ev.of_eq fun k => rfl
  refine Ev.if_pos rfl (Ev.if_pos rfl ?_)
  have e : (b ++ (⟨#[47]⟩ : ByteArray)).data.toList = b.data.toList ++ [47] := app_data _ _
  have ew : wrap64 ((b.size : Int) + 1) = ((b.size + 1 : Nat) : Int) := by rw [wrap_id (by omega) (by omega)]; omega
  rw [ew]
  by_cases h : a.size > b.size
  · refine Ev.if_pos (by omega) (Ev.if_pos (by omega) (Ev.if_pos (by omega) (Ev.if_pos (by omega) (Ev.of_eq fun k => ?_))))
    congr 1
    rw [Lib.toList_data, Lib.toList_data, Lib.extract_data, e]
    simp only [Int.toNat_natCast, Nat.sub_zero, List.drop_zero, Bool.true_and]
    rw [Bool.eq_iff_iff, List.isPrefixOf_iff_prefix, List.prefix_iff_eq_take, beq_iff_eq]
    simp only [List.length_append, Array.length_toList, List.length_cons, List.length_nil]
    exact eq_comm
  · refine Ev.if_neg (by omega) (Ev.of_eq fun k => ?_)
    congr 1
    symm
    rw [Bool.true_and, Bool.true_and, Bool.eq_false_iff]
    intro h2
    have := (List.isPrefixOf_iff_prefix.1 h2).length_le
    simp only [List.length_append, Array.length_toList, List.length_cons, List.length_nil] at this
    exact h this

theorem split_last {l : List UInt8} : ∃ (ll : List (List UInt8)) (y : List UInt8), splitL l = ll ++ [y] ∧ (47 : UInt8) ∉ y ∧ ((ll = [] ∧ l = y) ∨ ∃ x, ll = splitL x ∧ l = x ++ 47 :: y) := by
  by_cases h : (47 : UInt8) ∈ l
  · have : ∃ x y, l = x ++ 47 :: y ∧ (47 : UInt8) ∉ y := by
      induction l with
      | nil => cases h
      | cons c l ih =>
        by_cases h2 : (47 : UInt8) ∈ l
        · obtain ⟨x, y, e, hy⟩ := ih h2
          exact ⟨c :: x, y, by rw [e]; rfl, hy⟩
        · rcases List.mem_cons.1 h with rfl | h3
          · exact ⟨[], l, rfl, h2⟩
          · exact absurd h3 h2
    obtain ⟨x, y, rfl, hy⟩ := this
    exact ⟨splitL x, y, by rw [splitL_append, splitL_one hy], hy, .inr ⟨x, rfl, rfl⟩⟩
  · exact ⟨[], l, splitL_one h, h, .inl ⟨rfl, rfl⟩⟩

theorem ref_parent (s : ByteArray) (hs : s.size ≤ 4398046511104) : ∃ r, Ev (fun k => reelkeeperref02_Parent.f k s) r ∧ IsParent s r := by
  unfold reelkeeperref02_Parent.f
  cases hm : mayL s.data.toList
  · refine ⟨(⟨#[]⟩, false), Ev.bind (ref_parts s hs) ?_, .inl ⟨rfl, fun h => by rw [hm] at h; cases h⟩⟩
    rw [hm]
    exact Ev.of_eq fun k => rfl
  · obtain ⟨ll, y, h1, hy, h2⟩ := split_last (l := s.data.toList)
    have hp : Ev (fun k => reelkeeperref02_Parts.f k s) (splitA s) := by have := ref_parts s hs; rwa [hm] at this
    have hA : splitA s = ll.map toA ++ [toA y] := by rw [splitA_def, h1, List.map_append]; rfl
    have hlen := splitA_length s
    have hz : s.data.toList.length = s.size := Array.length_toList
    rcases h2 with ⟨rfl, h2⟩ | ⟨x, rfl, h2⟩
    · refine ⟨(⟨#[]⟩, false), Ev.bind hp ?_, .inl ⟨rfl, fun _ => by rw [h2]; exact hy⟩⟩
      rw [hA]
      exact Ev.of_eq fun k => rfl
    · have hl1 : 0 < (splitL x).length := List.length_pos_iff.2 (splitL_ne x)
      have hx : x.length + y.length + 1 = s.size := by rw [← hz, h2]; simp; omega
      refine ⟨(s.extract 0 x.length, true), Ev.bind hp ?_, .inr ⟨rfl, hm, y, ?_, hy⟩⟩
      · have hL : (splitA s).length = (splitL x).length + 1 := by rw [hA]; simp
        have ew : wrap64 (((splitA s).length : Int) - 1) = ((splitL x).length : Int) := by rw [wrap_id (by omega) (by omega)]; omega
        have hg : rdOf ByteArray.empty (splitA s) ((splitL x).length : Int) = toA y := by
          unfold rdOf
          rw [hA]
          simp [List.getD]
        have hys : (toA y).size = y.length := by show y.toArray.size = _; simp
        rw [ew, hg, hys]
        have ew2 : wrap64 (wrap64 ((s.size : Int) - (y.length : Int)) - 1) = (x.length : Int) := by
          rw [wrap_id (x := (s.size : Int) - (y.length : Int)) (by omega) (by omega), wrap_id (by omega) (by omega)]; omega
        rw [ew2]
        refine Ev.if_neg (by omega) (Ev.if_pos (by omega) (Ev.if_pos (by omega) (Ev.if_pos (by omega) (Ev.if_pos (by omega) (Ev.of_eq fun k => ?_)))))
        simp
      · have e : (s.extract 0 x.length).data.toList = s.data.toList.take x.length := by rw [Lib.extract_data]; simp
        show s.data.toList = (s.extract 0 x.length).data.toList ++ 47 :: y
        rw [e]
        conv => rhs; rw [h2]
        rw [List.take_left]
        exact h2


end Go.Proofs.Ytddjnicmpgbcgaa.X
