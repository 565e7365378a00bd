/- Paths, plainly: what May of package path computes; small words. -/
import Derived.Test.YtddjnicmpgbcgaaXK
import Derived.Test.YtddjnicmpgbcgaaXGpath
import Derived.Test.YtddjnicmpgbcgaaYPath
import Derived.Test.YtddjnicmpgbcgaaXGreelkeeperref02
import Derived.Lib.IndexAny
namespace Go.Proofs.Ytddjnicmpgbcgaa.X
open Go.RowKit Go.Proofs.YtddjnicmpgbcgaaW.PrintWords Go.Proofs.YtddjnicmpgbcgaaW.PrintLast Go.Proofs.YtddjnicmpgbcgaaW.PrintMore
attribute [local go_sem] max2_int min2_int max_two min_two max_three min_three max_four min_four
set_option linter.unusedVariables false
set_option linter.unusedSimpArgs false

open Go.Proofs.YtddjnicmpgbcgaaY

theorem wrap_id {x : Int} (h0 : -9223372036854775808 ≤ x) (h1 : x ≤ 9223372036854775807) : wrap64 x = x := by unfold wrap64; omega

theorem mayA_eq (s : ByteArray) : mayA s = mayL s.data.toList := by
  unfold mayA mayL splitA
  have e : decide (Lib.indexByte s.data.toList 0 < 0) = !s.data.toList.contains 0 := by
    rw [Lib.contains_iff_indexByte]
    by_cases h : Lib.indexByte s.data.toList 0 < 0
    · simp [h]
    · simp [h]; omega
  rw [e, List.all_map, Array.length_toList]
  rfl

theorem may_f {s : ByteArray} (h : s.size ≤ 9223372036854775807) : path_May.f s = some (mayL s.data.toList) := by
  unfold path_May.f; rw [if_pos h, mayA_eq]
theorem mayL_size {l : List UInt8} (h : mayL l = true) : l.length ≤ 300 := by
  unfold mayL at h
  simp only [Bool.and_eq_true, decide_eq_true_eq] at h
  exact h.2.1

theorem mayL_append (a b : List UInt8) : mayL (a ++ 47 :: b) = (mayL a && mayL b && decide (a.length + b.length + 1 ≤ 300)) := by
  unfold mayL
  rw [splitL_append, List.all_append]
  have e : (a ++ 47 :: b).contains (0 : UInt8) = (a.contains 0 || b.contains 0) := by
    simp [List.contains_eq_any_beq, List.any_append]
  rw [e]
  simp only [List.length_append, List.length_cons]
  by_cases h1 : a.length + (b.length + 1) ≤ 300
  · have h2 : a.length ≤ 300 := by omega
    have h3 : b.length ≤ 300 := by omega
    have h4 : a.length + b.length + 1 ≤ 300 := by omega
    simp only [h1, h2, h3, h4, decide_true, Bool.true_and, Bool.and_true]
    cases (splitL a).all fun x => !oddL x <;> cases (splitL b).all fun x => !oddL x <;> cases a.contains 0 <;> cases b.contains 0 <;> rfl
  · have h4 : ¬ a.length + b.length + 1 ≤ 300 := by omega
    simp [h1, h4]

theorem mayL_ne {l : List UInt8} (h : mayL l = true) : l ≠ [] := by
  rintro rfl
  revert h; decide

theorem app_data (a b : ByteArray) : (a ++ b).data.toList = a.data.toList ++ b.data.toList := by simp

theorem bt_some {s : ByteArray} {n : Nat} (h : n < s.size) : ∃ c, s.data.toList[n]? = some c ∧ bt s (n : Int) = (c.toNat : Int) := by
  refine ⟨s[n], Lib.data_getElem? s n h, ?_⟩
  rw [← bt_at s (n : Int) (by simpa using h)]
  rfl
theorem bt_eq {s : ByteArray} {n : Nat} {c : UInt8} (h : s.data.toList[n]? = some c) : bt s (n : Int) = (c.toNat : Int) := by
  have hl := (List.getElem?_eq_some_iff.1 h).1
  rw [Array.length_toList] at hl
  obtain ⟨d, h1, h2⟩ := bt_some (s := s) (n := n) hl
  rw [h] at h1
  cases h1
  exact h2
theorem bt_is {s : ByteArray} {n : Nat} (h : n < s.size) (c : UInt8) : bt s (n : Int) = (c.toNat : Int) ↔ s.data.toList[n]? = some c := by
  obtain ⟨d, h1, h2⟩ := bt_some h
  rw [h2, h1]
  constructor
  · intro e; rw [UInt8.toNat_inj.1 (by omega : d.toNat = c.toNat)]
  · intro e; cases e; rfl

theorem list_at {l : List UInt8} {n : Nat} {c : UInt8} (h : l[n]? = some c) : l = l.take n ++ c :: l.drop (n + 1) := by
  obtain ⟨hlt, he⟩ := List.getElem?_eq_some_iff.1 h
  conv => lhs; rw [← List.take_append_drop n l, List.drop_eq_getElem_cons hlt, he]

theorem Ev.of_eq {α : Type} {g : Nat → Option α} {r : α} (h : ∀ k, g k = some r) : Ev g r := ⟨0, fun k _ => h k⟩
theorem Ev.if_pos {α : Type} {c : Prop} [Decidable c] {a b : Nat → Option α} {r : α} (hc : c) (h : Ev a r) : Ev (fun k => if c then a k else b k) r := by simpa only [_root_.if_pos hc] using h
theorem Ev.if_neg {α : Type} {c : Prop} [Decidable c] {a b : Nat → Option α} {r : α} (hc : ¬ c) (h : Ev b r) : Ev (fun k => if c then a k else b k) r := by simpa only [_root_.if_neg hc] using h

end Go.Proofs.Ytddjnicmpgbcgaa.X
namespace Go.Proofs.Ytddjnicmpgbcgaa.X
open Go.RowKit Go.Proofs.YtddjnicmpgbcgaaW.PrintWords Go.Proofs.YtddjnicmpgbcgaaW.PrintLast Go.Proofs.YtddjnicmpgbcgaaW.PrintMore
attribute [local go_sem] max2_int min2_int max_two min_two max_three min_three max_four min_four
set_option linter.unusedVariables false
set_option linter.unusedSimpArgs false

open Go.Proofs.YtddjnicmpgbcgaaY
/-- The first slash from a place on. -/
def slashFrom (l : List UInt8) (i : Nat) : Option Nat :=
  if 0 ≤ Lib.indexByte (l.drop i) 47 then some (i + (Lib.indexByte (l.drop i) 47).toNat) else none

theorem slashFrom_here {l : List UInt8} {i : Nat} (h : l[i]? = some 47) : slashFrom l i = some i := by
  obtain ⟨hlt, he⟩ := List.getElem?_eq_some_iff.1 h
  unfold slashFrom
  rw [List.drop_eq_getElem_cons hlt, he]
  simp [Lib.indexByte]
theorem slashFrom_next {l : List UInt8} {i : Nat} (hi : i < l.length) (h : l[i]? ≠ some 47) : slashFrom l i = slashFrom l (i + 1) := by
  have he : l[i] ≠ 47 := fun e => h (by rw [List.getElem?_eq_getElem hi, e])
  unfold slashFrom
  rw [List.drop_eq_getElem_cons hi]
  have hg := Lib.indexByte_ge (l.drop (i + 1)) 47
  generalize l.drop (i + 1) = t at *
  generalize l[i] = c at *
  have e : Lib.indexByte (c :: t) 47 = if 0 ≤ Lib.indexByte t 47 then Lib.indexByte t 47 + 1 else -1 := by
    simp only [Lib.indexByte]
    rw [if_neg (by simpa using he)]
    by_cases h0 : Lib.indexByte t 47 = -1
    · rw [if_pos (by simp [h0]), if_neg (by omega)]
    · rw [if_neg (by simpa using h0), if_pos (by omega)]
  rw [e]
  by_cases h0 : 0 ≤ Lib.indexByte t 47
  · rw [if_pos h0, if_pos (by omega), if_pos h0]
    congr 1
    omega
  · rw [if_neg h0, if_neg (by omega), if_neg h0]
theorem slashFrom_end {l : List UInt8} {i : Nat} (hi : l.length ≤ i) : slashFrom l i = none := by
  unfold slashFrom
  rw [List.drop_of_length_le hi]
  simp [Lib.indexByte]
theorem slashFrom_some {l : List UInt8} {i m : Nat} (h : slashFrom l i = some m) : i ≤ m ∧ l[m]? = some 47 := by
  unfold slashFrom at h
  by_cases h0 : 0 ≤ Lib.indexByte (l.drop i) 47
  · rw [if_pos h0] at h
    obtain ⟨n, hn⟩ := Int.eq_ofNat_of_zero_le h0
    rw [hn] at h
    simp only [Int.toNat_natCast, Option.some.injEq] at h
    subst h
    refine ⟨by omega, ?_⟩
    have := (Lib.indexByte_some hn).1
    rwa [List.getElem?_drop] at this
  · rw [if_neg h0] at h; cases h

def noSplit : ByteArray × ByteArray × Bool := (⟨#[]⟩, ⟨#[]⟩, false)
def splitAt (s : ByteArray) : Option Nat → ByteArray × ByteArray × Bool
  | none => noSplit
  | some m => if m > 155 then noSplit else (s.extract 0 m, s.extract (m + 1) s.size, true)
/-- What Split tells. -/
def splitR (s : ByteArray) : ByteArray × ByteArray × Bool :=
  if mayL s.data.toList then (if s.size ≤ 100 then (⟨#[]⟩, s, true) else splitAt s (slashFrom s.data.toList (s.size - 101))) else noSplit

theorem split_f (s : ByteArray) (hs : s.size ≤ 9223372036854775807) : path_Split.f s = some (splitR s) := by
  unfold path_Split.f splitR
  rw [may_f hs]
  simp only [Option.bind_some]
  cases hm : mayL s.data.toList
  · rfl
  simp only [if_true]
  by_cases h1 : s.size ≤ 100
  · rw [if_pos (by omega), if_pos h1]
  have h3 := mayL_size hm
  rw [Array.length_toList] at h3
  have h4 : s.size ≤ 300 := h3
  rw [if_neg (by omega), if_neg h1]
  have e1 : wrap64 (wrap64 ((s.size : Int) - 100) - 1) = ((s.size - 101 : Nat) : Int) := by rw [wrap_id (x := (s.size : Int) - 100) (by omega) (by omega), wrap_id (by omega) (by omega)]; omega
  rw [e1, if_pos (by omega), if_pos (by omega)]
  unfold strings_IndexByte.f
  simp only [Option.bind_some, Int.toNat_natCast]
  rw [Lib.extract_to_end]
  rw [show (Int.toNat 47).toUInt8 = 47 from rfl]
  by_cases h0 : Lib.indexByte (s.data.toList.drop (s.size - 101)) 47 < 0
  · rw [if_pos h0]
    unfold slashFrom
    rw [if_neg (by omega)]
    rfl
  rw [if_neg h0]
  obtain ⟨n, hn⟩ := Int.eq_ofNat_of_zero_le (Int.not_lt.1 h0)
  have hlt := indexByte_lt hn
  rw [List.length_drop, Array.length_toList] at hlt
  have hlt2 : n < s.size - (s.size - 101) := hlt
  have e2 : slashFrom s.data.toList (s.size - 101) = some (s.size - 101 + n) := by
    unfold slashFrom
    rw [hn, if_pos (by omega)]
    simp
  rw [e2, hn]
  unfold splitAt
  have e3 : wrap64 (((s.size - 101 : Nat) : Int) + (n : Int)) = ((s.size - 101 + n : Nat) : Int) := by rw [wrap_id (by omega) (by omega)]; omega
  have e4 : wrap64 (((s.size - 101 + n : Nat) : Int) + 1) = ((s.size - 101 + n + 1 : Nat) : Int) := by rw [wrap_id (by omega) (by omega)]; omega
  rw [e3, e4]
  by_cases h5 : s.size - 101 + n > 155
  · rw [if_pos (by omega)]
    simp only [h5, if_true]
    rfl
  · rw [if_neg (by omega), if_pos (by omega), if_pos (by omega), if_pos (by omega), if_pos (by omega)]
    simp only [h5, if_false, Int.toNat_natCast]



end Go.Proofs.Ytddjnicmpgbcgaa.X
namespace Go.Proofs.Ytddjnicmpgbcgaa.X
open Go.RowKit Go.Proofs.YtddjnicmpgbcgaaW.PrintWords Go.Proofs.YtddjnicmpgbcgaaW.PrintLast Go.Proofs.YtddjnicmpgbcgaaW.PrintMore
attribute [local go_sem] max2_int min2_int max_two min_two max_three min_three max_four min_four
set_option linter.unusedVariables false
set_option linter.unusedSimpArgs false

open Go.Proofs.YtddjnicmpgbcgaaY

def toA (l : List UInt8) : ByteArray := ⟨l.toArray⟩
theorem toA_data (l : List UInt8) : (toA l).data.toList = l := rfl
theorem splitA_def (s : ByteArray) : splitA s = (splitL s.data.toList).map toA := rfl
/-- A text in front of the first piece. -/
def onto (x : List UInt8) (ll : List (List UInt8)) : List (List UInt8) := match ll with
  | [] => [x]
  | h :: t => (x ++ h) :: t
theorem onto_split (x : List UInt8) (c : UInt8) (hc : c ≠ 47) (l : List UInt8) : onto x (splitL (c :: l)) = onto (x ++ [c]) (splitL l) := by
  obtain ⟨h, t, h1, h2⟩ := splitL_cons hc l
  rw [h1, h2]
  simp [onto]
theorem onto_slash (x : List UInt8) (l : List UInt8) : onto x (splitL (47 :: l)) = x :: splitL l := by rw [splitL_slash]; simp [onto]
theorem onto_nil (l : List UInt8) : onto [] (splitL l) = splitL l := by
  cases h : splitL l with
  | nil => exact absurd h (splitL_ne l)
  | cons a t => rfl

theorem pieces_ev (s : ByteArray) (hs : s.size ≤ 4398046511104) (d : Nat) : ∀ (i : Nat) (acc : List ByteArray) (x : ByteArray), i + d = s.size → acc.length ≤ i → x.size ≤ i →
    Ev (fun k => reelkeeperref02_pieces.l0 k s acc x (i : Int)) (acc ++ (onto x.data.toList (splitL (s.data.toList.drop i))).map toA) := by
  induction d with
  | zero =>
    intro i acc x hi ha hx
    refine Ev.step (fun _ => rfl) ?_
    simp only [reelkeeperref02_pieces.l0]
    refine Ev.of_eq fun k => ?_
    rw [_root_.if_neg (by omega), _root_.if_pos (by omega), List.drop_of_length_le (by rw [Array.length_toList]; show s.size ≤ i; omega)]
    simp [splitL, onto, toA]
  | succ d ih =>
    intro i acc x hi ha hx
    have hlt : i < s.size := by omega
    obtain ⟨c, h1, h2⟩ := bt_some hlt
    have hl := (List.getElem?_eq_some_iff.1 h1).1
    have hd : s.data.toList.drop i = c :: s.data.toList.drop (i + 1) := by
      rw [List.drop_eq_getElem_cons hl]
      rw [List.getElem?_eq_getElem hl] at h1
      rw [Option.some.inj h1]
    refine Ev.step (fun _ => rfl) ?_
    simp only [reelkeeperref02_pieces.l0]
    refine Ev.if_pos (by omega) (Ev.if_pos (by omega) ?_)
    have hw : wrap64 ((i : Int) + 1) = ((i + 1 : Nat) : Int) := by rw [wrap_id (by omega) (by omega)]; omega
    rw [hw, hd]
    by_cases hc : bt s (i : Int) = 47
    · have hc2 : c = 47 := by
        have := (bt_is hlt 47).1 hc
        rw [h1] at this
        exact Option.some.inj this
      subst hc2
      refine Ev.if_pos hc (Ev.if_pos (by omega) ?_)
      have := ih (i + 1) (acc ++ [x]) ⟨#[]⟩ (by omega) (by simp; omega) (by show 0 ≤ _; omega)
      rw [onto_slash]
      simp only [List.append_assoc, List.map_cons] at this ⊢
      have e : onto (ByteArray.mk #[]).data.toList (splitL (s.data.toList.drop (i + 1))) = splitL (s.data.toList.drop (i + 1)) := onto_nil _
      rw [e] at this
      exact this
    · have hc2 : c ≠ 47 := by
        rintro rfl
        exact hc ((bt_is hlt 47).2 h1)
      have e : (s.extract i (i + 1)).data.toList = [c] := by
        rw [Lib.extract_data, hd]
        simp
      have e2 : (x ++ s.extract i (i + 1)).data.toList = x.data.toList ++ [c] := by rw [app_data, e]
      have e3 : (s.extract i (i + 1)).size = 1 := by rw [ByteArray.size_extract]; omega
      refine Ev.if_neg hc (Ev.if_pos (by omega) (Ev.if_pos (by omega) ?_))
      simp only [Int.toNat_natCast]
      refine Ev.if_pos (by rw [e3]; omega) ?_
      have := ih (i + 1) acc (x ++ s.extract i (i + 1)) (by omega) (by omega) (by rw [ByteArray.size_append, e3]; omega)
      rw [onto_split _ _ hc2, ← e2]
      exact this

theorem ref_pieces (s : ByteArray) (hs : s.size ≤ 4398046511104) : Ev (fun k => reelkeeperref02_pieces.f k s) (splitA s) := by
  have := pieces_ev s hs s.size 0 [] ⟨#[]⟩ (by omega) (by simp) (Nat.le_refl _)
  simp only [List.nil_append, List.drop_zero] at this
  rw [onto_nil] at this
  exact this

theorem may_loop (l : List ByteArray) (hl : l.length ≤ 4398046511105) (d : Nat) : ∀ i : Nat, i + d = l.length →
    Ev (fun k => reelkeeperref02_May.l1 k l (i : Int)) ((l.drop i).all fun x => !oddL x.data.toList) := by
  induction d with
  | zero =>
    intro i hi
    refine Ev.step (fun _ => rfl) ?_
    simp only [reelkeeperref02_May.l1]
    refine Ev.of_eq fun k => ?_
    rw [_root_.if_neg (by omega), List.drop_of_length_le (by omega)]
    rfl
  | succ d ih =>
    intro i hi
    have hlt : i < l.length := by omega
    refine Ev.step (fun _ => rfl) ?_
    simp only [reelkeeperref02_May.l1]
    refine Ev.if_pos (by omega) (Ev.if_pos (by omega) ?_)
    have hw : wrap64 ((i : Int) + 1) = ((i + 1 : Nat) : Int) := by rw [wrap_id (by omega) (by omega)]; omega
    have hg : rdOf ByteArray.empty l (i : Int) = l[i] := by unfold rdOf; simp [List.getD, List.getElem?_eq_getElem hlt]
    rw [hw, hg, Lib.toList_data, List.drop_eq_getElem_cons hlt, List.all_cons]
    unfold oddL
    by_cases h1 : l[i].data.toList = []
    · refine Ev.if_pos h1 (Ev.of_eq fun k => by rw [h1]; rfl)
    refine Ev.if_neg h1 ?_
    by_cases h2 : l[i].data.toList = [46]
    · refine Ev.if_pos h2 (Ev.of_eq fun k => by rw [h2]; rfl)
    refine Ev.if_neg h2 ?_
    by_cases h3 : l[i].data.toList = [46, 46]
    · refine Ev.if_pos h3 (Ev.of_eq fun k => by rw [h3]; rfl)
    refine Ev.if_neg h3 ?_
    have e : (!(l[i].data.toList == [] || l[i].data.toList == [46] || l[i].data.toList == [46, 46])) = true := by
      rw [beq_eq_false_iff_ne.2 h1, beq_eq_false_iff_ne.2 h2, beq_eq_false_iff_ne.2 h3]; rfl
    rw [e, Bool.true_and]
    exact ih (i + 1) (by omega)

theorem may_bytes (s : ByteArray) (hs : s.size ≤ 4398046511104) (d : Nat) : ∀ i : Nat, i + d = s.size →
    Ev (fun k => reelkeeperref02_May.l0 k s (i : Int)) (!(s.data.toList.drop i).contains 0 && (splitL s.data.toList).all fun x => !oddL x) := by
  induction d with
  | zero =>
    intro i hi
    refine Ev.step (fun _ => rfl) ?_
    simp only [reelkeeperref02_May.l0]
    refine Ev.if_neg (by omega) (Ev.bind (ref_pieces s hs) ?_)
    have := may_loop (splitA s) (by have := splitA_length s; omega) (splitA s).length 0 (by omega)
    rw [List.drop_of_length_le (by rw [Array.length_toList]; show s.size ≤ i; omega)]
    simp only [List.drop_zero, splitA_def, List.all_map] at this ⊢
    simpa [Function.comp_def, toA_data] using this
  | succ d ih =>
    intro i hi
    have hlt : i < s.size := by omega
    obtain ⟨c, h1, h2⟩ := bt_some hlt
    have hl := (List.getElem?_eq_some_iff.1 h1).1
    have hd : s.data.toList.drop i = c :: s.data.toList.drop (i + 1) := by
      rw [List.drop_eq_getElem_cons hl]
      rw [List.getElem?_eq_getElem hl] at h1
      rw [Option.some.inj h1]
    refine Ev.step (fun _ => rfl) ?_
    simp only [reelkeeperref02_May.l0]
    refine Ev.if_pos (by omega) (Ev.if_pos (by omega) ?_)
    have hw : wrap64 ((i : Int) + 1) = ((i + 1 : Nat) : Int) := by rw [wrap_id (by omega) (by omega)]; omega
    rw [hw, hd, h2]
    by_cases hc : c = 0
    · subst hc
      exact Ev.if_pos rfl (Ev.of_eq fun k => by simp)
    · refine Ev.if_neg (fun e => hc (UInt8.toNat_inj.1 (by simpa using e))) ?_
      have e : (c :: s.data.toList.drop (i + 1)).contains 0 = (s.data.toList.drop (i + 1)).contains 0 := by
        rw [List.contains_cons]
        have : ((0 : UInt8) == c) = false := by simpa using fun e => hc e.symm
        rw [this, Bool.false_or]
      rw [e]
      exact ih (i + 1) (by omega)

theorem ref_may (s : ByteArray) (hs : s.size ≤ 4398046511104) : Ev (fun k => reelkeeperref02_May.f k s) (mayL s.data.toList) := by
  unfold reelkeeperref02_May.f
  by_cases h1 : (s.size : Int) < 1
  · have e : s.data.toList = [] := List.eq_nil_of_length_eq_zero (by rw [Array.length_toList]; show s.size = 0; omega)
    refine Ev.if_pos h1 (Ev.step (fun _ => rfl) ?_)
    simp only [reelkeeperref02_May.j0]
    exact Ev.of_eq fun k => by rw [_root_.if_pos trivial, e]; rfl
  · refine Ev.if_neg h1 (Ev.step (fun _ => rfl) ?_)
    simp only [reelkeeperref02_May.j0]
    have hz : s.data.toList.length = s.size := Array.length_toList
    by_cases h2 : (s.size : Int) > 300
    · refine Ev.if_pos (by simp; omega) (Ev.of_eq fun k => ?_)
      unfold mayL
      rw [hz, show decide (s.size ≤ 300) = false from decide_eq_false (by omega)]
      simp
    · refine Ev.if_neg (by simp; omega) ?_
      have := may_bytes s hs s.size 0 (by omega)
      unfold mayL
      rw [hz, show decide (s.size ≤ 300) = true from decide_eq_true (by omega), Bool.true_and, Bool.and_comm]
      simpa using this

end Go.Proofs.Ytddjnicmpgbcgaa.X
namespace Go.Proofs.Ytddjnicmpgbcgaa.X
open Go.RowKit Go.Proofs.YtddjnicmpgbcgaaW.PrintWords Go.Proofs.YtddjnicmpgbcgaaW.PrintLast Go.Proofs.YtddjnicmpgbcgaaW.PrintMore
attribute [local go_sem] max2_int min2_int max_two min_two max_three min_three max_four min_four
set_option linter.unusedVariables false
set_option linter.unusedSimpArgs false

open Go.Proofs.YtddjnicmpgbcgaaY
theorem ref_split_loop (s : ByteArray) (hs : s.size ≤ 300) (h1 : 100 < s.size) (d : Nat) : ∀ i : Nat, i + d = s.size →
    Ev (fun k => reelkeeperref02_Split.l0 k s (i : Int)) (splitAt s (slashFrom s.data.toList (max i (s.size - 101)))) := by
  have hz : s.data.toList.length = s.size := Array.length_toList
  induction d with
  | zero =>
    intro i hi
    refine Ev.step (fun _ => rfl) ?_
    simp only [reelkeeperref02_Split.l0]
    rw [show max i (s.size - 101) = i by omega, slashFrom_end (by omega)]
    exact Ev.if_neg (by omega) (Ev.now _)
  | succ d ih =>
    intro i hi
    have hlt : i < s.size := by omega
    refine Ev.step (fun _ => rfl) ?_
    simp only [reelkeeperref02_Split.l0]
    refine Ev.if_pos (by omega) (Ev.if_pos (by omega) ?_)
    have hw : wrap64 ((i : Int) + 1) = ((i + 1 : Nat) : Int) := by rw [wrap_id (by omega) (by omega)]; omega
    have hw2 : wrap64 (wrap64 ((s.size : Int) - (i : Int)) - 1) = (s.size : Int) - i - 1 := by
      rw [wrap_id (x := (s.size : Int) - (i : Int)) (by omega) (by omega), wrap_id (by omega) (by omega)]
    rw [hw2]
    have hnext : Ev (fun k => reelkeeperref02_Split.j1 k s (i : Int) false) (splitAt s (slashFrom s.data.toList (max (i + 1) (s.size - 101)))) := by
      refine Ev.step (fun _ => rfl) ?_
      simp only [reelkeeperref02_Split.j1]
      refine Ev.if_neg (by simp) ?_
      rw [hw]
      exact ih (i + 1) (by omega)
    by_cases hc : bt s (i : Int) = 47
    · have hq := (bt_is hlt 47).1 hc
      refine Ev.if_pos hc ?_
      by_cases h2 : (s.size : Int) - i - 1 ≤ 100
      · rw [show max i (s.size - 101) = i by omega, slashFrom_here hq, decide_eq_true h2]
        refine Ev.step (fun _ => rfl) ?_
        simp only [reelkeeperref02_Split.j1]
        refine Ev.if_pos trivial ?_
        rw [hw]
        unfold splitAt
        by_cases h3 : i > 155
        · refine Ev.if_pos (by omega) (Ev.of_eq fun k => ?_)
          simp only [h3, if_true]
          rfl
        · refine Ev.if_neg (by omega) (Ev.if_pos (by omega) (Ev.if_pos (by omega) (Ev.if_pos (by omega) (Ev.if_pos (by omega) (Ev.of_eq fun k => ?_)))))
          simp only [h3, if_false, Int.toNat_natCast]
      · rw [decide_eq_false h2, show max i (s.size - 101) = max (i + 1) (s.size - 101) by omega]
        exact hnext
    · refine Ev.if_neg hc ?_
      have hq : s.data.toList[i]? ≠ some 47 := fun e => hc ((bt_is hlt 47).2 e)
      by_cases h2 : s.size - 101 ≤ i
      · rw [show max i (s.size - 101) = i by omega, slashFrom_next (by omega) hq]
        rw [show max (i + 1) (s.size - 101) = i + 1 by omega] at hnext
        exact hnext
      · rw [show max i (s.size - 101) = max (i + 1) (s.size - 101) by omega]
        exact hnext

theorem ref_split (s : ByteArray) (hs : s.size ≤ 4398046511104) : Ev (fun k => reelkeeperref02_Split.f k s) (splitR s) := by
  unfold reelkeeperref02_Split.f splitR
  refine Ev.bind (ref_may s hs) ?_
  cases hm : mayL s.data.toList
  · exact Ev.of_eq fun k => rfl
  have h3 := mayL_size hm
  have hz : s.data.toList.length = s.size := Array.length_toList
  refine Ev.if_pos rfl ?_
  simp only [if_true]
  by_cases h1 : s.size ≤ 100
  · rw [_root_.if_pos h1]
    exact Ev.if_pos (by omega) (Ev.now _)
  · rw [_root_.if_neg h1]
    refine Ev.if_neg (by omega) ?_
    have := ref_split_loop s (by omega) (by omega) s.size 0 (by omega)
    rw [show max 0 (s.size - 101) = s.size - 101 by omega] at this
    exact this

end Go.Proofs.Ytddjnicmpgbcgaa.X
