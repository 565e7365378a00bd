/- Paths, plainly: the reference's May. -/
import Derived.Test.YtekfgmpldgoglaaXK
import Derived.Test.YtekfgmpldgoglaaXGreelkeeperref02
import Derived.Test.YtekfgmpldgoglaaYAll
import Derived.Test.YtekfgmpldgoglaaPGA
import Derived.Test.YtekfgmpldgoglaaXGpath
import Derived.Test.YtekfgmpldgoglaaXGblock
import Derived.Test.YtekfgmpldgoglaaXGreelkeeperref03
import Derived.Test.YtekfgmpldgoglaaXGhead
import Derived.Test.YtekfgmpldgoglaaXGreelkeeperref04
import Derived.Test.YtekfgmpldgoglaaXGreelkeeperref05
import Derived.Test.YtekfgmpldgoglaaXGlong
import Derived.Lib.IndexAny
namespace Go.Proofs.Ytekfgmpldgoglaa.X
open Go.RowKit Go.Proofs.YtekfgmpldgoglaaW.PrintWords Go.Proofs.YtekfgmpldgoglaaW.PrintLast Go.Proofs.YtekfgmpldgoglaaW.PrintMore
attribute [local go_sem] max2_int min2_int max_two min_two
set_option linter.unusedVariables false
set_option linter.unusedSimpArgs false

open Go.Proofs.YtekfgmpldgoglaaY

def toA (l : List UInt8) : ByteArray := ⟨l.toArray⟩
theorem toA_data (l : List UInt8) : (toA l).data.toList = l := rfl
theorem splitA_def (s : ByteArray) : splitA s = (splitL s.data.toList).map toA := rfl
/-- A text in front of the first piece. -/
def onto (x : List UInt8) (ll : List (List UInt8)) : List (List UInt8) := match ll with
  | [] => [x]
  | h :: t => (x ++ h) :: t
theorem onto_split (x : List UInt8) (c : UInt8) (hc : c ≠ 47) (l : List UInt8) : onto x (splitL (c :: l)) = onto (x ++ [c]) (splitL l) := by
  obtain ⟨h, t, h1, h2⟩ := splitL_cons hc l
  rw [h1, h2]
  simp [onto]
theorem onto_slash (x : List UInt8) (l : List UInt8) : onto x (splitL (47 :: l)) = x :: splitL l := by rw [splitL_slash]; simp [onto]
theorem onto_nil (l : List UInt8) : onto [] (splitL l) = splitL l := by
  cases h : splitL l with
  | nil => exact absurd h (splitL_ne l)
  | cons a t => rfl

theorem pieces_ev (s : ByteArray) (hs : s.size ≤ 4398046511104) (d : Nat) : ∀ (i : Nat) (acc : List ByteArray) (x : ByteArray), i + d = s.size → acc.length ≤ i → x.size ≤ i →
    Ev (fun k => reelkeeperref02_pieces.l0 k s acc x (i : Int)) (acc ++ (onto x.data.toList (splitL (s.data.toList.drop i))).map toA) := by
  induction d with
  | zero =>
    intro i acc x hi ha hx
    refine Ev.step (fun _ => rfl) ?_
    simp only [reelkeeperref02_pieces.l0]
    refine Ev.of_eq fun k => ?_
    rw [_root_.if_neg (by omega), _root_.if_pos (by omega), List.drop_of_length_le (by rw [Array.length_toList]; show s.size ≤ i; omega)]
    simp [splitL, onto, toA]
  | succ d ih =>
    intro i acc x hi ha hx
    have hlt : i < s.size := by omega
    obtain ⟨c, h1, h2⟩ := bt_some hlt
    have hl := (List.getElem?_eq_some_iff.1 h1).1
    have hd : s.data.toList.drop i = c :: s.data.toList.drop (i + 1) := by
      rw [List.drop_eq_getElem_cons hl]
      rw [List.getElem?_eq_getElem hl] at h1
      rw [Option.some.inj h1]
    refine Ev.step (fun _ => rfl) ?_
    simp only [reelkeeperref02_pieces.l0]
    refine Ev.if_pos (by omega) (Ev.if_pos (by omega) ?_)
    have hw : wrap64 ((i : Int) + 1) = ((i + 1 : Nat) : Int) := by rw [wrap_id (by omega) (by omega)]; omega
    rw [hw, hd]
    by_cases hc : bt s (i : Int) = 47
    · have hc2 : c = 47 := by
        have := (bt_is hlt 47).1 hc
        rw [h1] at this
        exact Option.some.inj this
      subst hc2
      refine Ev.if_pos hc (Ev.if_pos (by omega) ?_)
      have := ih (i + 1) (acc ++ [x]) ⟨#[]⟩ (by omega) (by simp; omega) (by show 0 ≤ _; omega)
      rw [onto_slash]
      simp only [List.append_assoc, List.map_cons] at this ⊢
      have e : onto (ByteArray.mk #[]).data.toList (splitL (s.data.toList.drop (i + 1))) = splitL (s.data.toList.drop (i + 1)) := onto_nil _
      rw [e] at this
      exact this
    · have hc2 : c ≠ 47 := by
        rintro rfl
        exact hc ((bt_is hlt 47).2 h1)
      have e : (s.extract i (i + 1)).data.toList = [c] := by
        rw [Lib.extract_data, hd]
        simp
      have e2 : (x ++ s.extract i (i + 1)).data.toList = x.data.toList ++ [c] := by rw [app_data, e]
      have e3 : (s.extract i (i + 1)).size = 1 := by rw [ByteArray.size_extract]; omega
      refine Ev.if_neg hc (Ev.if_pos (by omega) (Ev.if_pos (by omega) ?_))
      simp only [Int.toNat_natCast]
      refine Ev.if_pos (by rw [e3]; omega) ?_
      have := ih (i + 1) acc (x ++ s.extract i (i + 1)) (by omega) (by omega) (by rw [ByteArray.size_append, e3]; omega)
      rw [onto_split _ _ hc2, ← e2]
      exact this

theorem ref_pieces (s : ByteArray) (hs : s.size ≤ 4398046511104) : Ev (fun k => reelkeeperref02_pieces.f k s) (splitA s) := by
  have := pieces_ev s hs s.size 0 [] ⟨#[]⟩ (by omega) (by simp) (Nat.le_refl _)
  simp only [List.nil_append, List.drop_zero] at this
  rw [onto_nil] at this
  exact this

theorem may_loop (l : List ByteArray) (hl : l.length ≤ 4398046511105) (d : Nat) : ∀ i : Nat, i + d = l.length →
    Ev (fun k => reelkeeperref02_May.l1 k l (i : Int)) ((l.drop i).all fun x => !oddL x.data.toList) := by
  induction d with
  | zero =>
    intro i hi
    refine Ev.step (fun _ => rfl) ?_
    simp only [reelkeeperref02_May.l1]
    refine Ev.of_eq fun k => ?_
    rw [_root_.if_neg (by omega), List.drop_of_length_le (by omega)]
    rfl
  | succ d ih =>
    intro i hi
    have hlt : i < l.length := by omega
    refine Ev.step (fun _ => rfl) ?_
    simp only [reelkeeperref02_May.l1]
    refine Ev.if_pos (by omega) (Ev.if_pos (by omega) ?_)
    have hw : wrap64 ((i : Int) + 1) = ((i + 1 : Nat) : Int) := by rw [wrap_id (by omega) (by omega)]; omega
    have hg : rdOf ByteArray.empty l (i : Int) = l[i] := by unfold rdOf; simp [List.getD, List.getElem?_eq_getElem hlt]
    rw [hw, hg, Lib.toList_data, List.drop_eq_getElem_cons hlt, List.all_cons]
    unfold oddL
    by_cases h1 : l[i].data.toList = []
    · refine Ev.if_pos h1 (Ev.of_eq fun k => by rw [h1]; rfl)
    refine Ev.if_neg h1 ?_
    by_cases h2 : l[i].data.toList = [46]
    · refine Ev.if_pos h2 (Ev.of_eq fun k => by rw [h2]; rfl)
    refine Ev.if_neg h2 ?_
    by_cases h3 : l[i].data.toList = [46, 46]
    · refine Ev.if_pos h3 (Ev.of_eq fun k => by rw [h3]; rfl)
    refine Ev.if_neg h3 ?_
    have e : (!(l[i].data.toList == [] || l[i].data.toList == [46] || l[i].data.toList == [46, 46])) = true := by
      rw [beq_eq_false_iff_ne.2 h1, beq_eq_false_iff_ne.2 h2, beq_eq_false_iff_ne.2 h3]; rfl
    rw [e, Bool.true_and]
    exact ih (i + 1) (by omega)

theorem may_bytes (s : ByteArray) (hs : s.size ≤ 4398046511104) (d : Nat) : ∀ i : Nat, i + d = s.size →
    Ev (fun k => reelkeeperref02_May.l0 k s (i : Int)) (!(s.data.toList.drop i).contains 0 && (splitL s.data.toList).all fun x => !oddL x) := by
  induction d with
  | zero =>
    intro i hi
    refine Ev.step (fun _ => rfl) ?_
    simp only [reelkeeperref02_May.l0]
    refine Ev.if_neg (by omega) (Ev.bind (ref_pieces s hs) ?_)
    have := may_loop (splitA s) (by have := splitA_length s; omega) (splitA s).length 0 (by omega)
    rw [List.drop_of_length_le (by rw [Array.length_toList]; show s.size ≤ i; omega)]
    simp only [List.drop_zero, splitA_def, List.all_map] at this ⊢
    simpa [Function.comp_def, toA_data] using this
  | succ d ih =>
    intro i hi
    have hlt : i < s.size := by omega
    obtain ⟨c, h1, h2⟩ := bt_some hlt
    have hl := (List.getElem?_eq_some_iff.1 h1).1
    have hd : s.data.toList.drop i = c :: s.data.toList.drop (i + 1) := by
      rw [List.drop_eq_getElem_cons hl]
      rw [List.getElem?_eq_getElem hl] at h1
      rw [Option.some.inj h1]
    refine Ev.step (fun _ => rfl) ?_
    simp only [reelkeeperref02_May.l0]
    refine Ev.if_pos (by omega) (Ev.if_pos (by omega) ?_)
    have hw : wrap64 ((i : Int) + 1) = ((i + 1 : Nat) : Int) := by rw [wrap_id (by omega) (by omega)]; omega
    rw [hw, hd, h2]
    by_cases hc : c = 0
    · subst hc
      exact Ev.if_pos rfl (Ev.of_eq fun k => by simp)
    · refine Ev.if_neg (fun e => hc (UInt8.toNat_inj.1 (by simpa using e))) ?_
      have e : (c :: s.data.toList.drop (i + 1)).contains 0 = (s.data.toList.drop (i + 1)).contains 0 := by
        rw [List.contains_cons]
        have : ((0 : UInt8) == c) = false := by simpa using fun e => hc e.symm
        rw [this, Bool.false_or]
      rw [e]
      exact ih (i + 1) (by omega)

theorem ref_may (s : ByteArray) (hs : s.size ≤ 4398046511104) : Ev (fun k => reelkeeperref02_May.f k s) (mayL s.data.toList) := by
  unfold reelkeeperref02_May.f
  by_cases h1 : (s.size : Int) < 1
  · have e : s.data.toList = [] := List.eq_nil_of_length_eq_zero (by rw [Array.length_toList]; show s.size = 0; omega)
    refine Ev.if_pos h1 (Ev.step (fun _ => rfl) ?_)
    simp only [reelkeeperref02_May.j0]
    exact Ev.of_eq fun k => by rw [_root_.if_pos trivial, e]; rfl
  · refine Ev.if_neg h1 (Ev.step (fun _ => rfl) ?_)
    simp only [reelkeeperref02_May.j0]
    have hz : s.data.toList.length = s.size := Array.length_toList
    by_cases h2 : (s.size : Int) > 300
    · refine Ev.if_pos (by simp; omega) (Ev.of_eq fun k => ?_)
      unfold mayL
      rw [hz, show decide (s.size ≤ 300) = false from decide_eq_false (by omega)]
      simp
    · refine Ev.if_neg (by simp; omega) ?_
      have := may_bytes s hs s.size 0 (by omega)
      unfold mayL
      rw [hz, show decide (s.size ≤ 300) = true from decide_eq_true (by omega), Bool.true_and, Bool.and_comm]
      simpa using this

end Go.Proofs.Ytekfgmpldgoglaa.X
namespace Go.Proofs.Ytekfgmpldgoglaa.X
open Go.RowKit Go.Proofs.YtekfgmpldgoglaaW.PrintWords Go.Proofs.YtekfgmpldgoglaaW.PrintLast Go.Proofs.YtekfgmpldgoglaaW.PrintMore
attribute [local go_sem] max2_int min2_int max_two min_two
set_option linter.unusedVariables false
set_option linter.unusedSimpArgs false

open Go.Proofs.YtekfgmpldgoglaaY
theorem ref_split_loop (s : ByteArray) (hs : s.size ≤ 300) (h1 : 100 < s.size) (d : Nat) : ∀ i : Nat, i + d = s.size →
    Ev (fun k => reelkeeperref02_Split.l0 k s (i : Int)) (splitAt s (slashFrom s.data.toList (max i (s.size - 101)))) := by
  have hz : s.data.toList.length = s.size := Array.length_toList
  induction d with
  | zero =>
    intro i hi
    refine Ev.step (fun _ => rfl) ?_
    simp only [reelkeeperref02_Split.l0]
    rw [show max i (s.size - 101) = i by omega, slashFrom_end (by omega)]
    exact Ev.if_neg (by omega) (Ev.now _)
  | succ d ih =>
    intro i hi
    have hlt : i < s.size := by omega
    refine Ev.step (fun _ => rfl) ?_
    simp only [reelkeeperref02_Split.l0]
    refine Ev.if_pos (by omega) (Ev.if_pos (by omega) ?_)
    have hw : wrap64 ((i : Int) + 1) = ((i + 1 : Nat) : Int) := by rw [wrap_id (by omega) (by omega)]; omega
    have hw2 : wrap64 (wrap64 ((s.size : Int) - (i : Int)) - 1) = (s.size : Int) - i - 1 := by
      rw [wrap_id (x := (s.size : Int) - (i : Int)) (by omega) (by omega), wrap_id (by omega) (by omega)]
    rw [hw2]
    have hnext : Ev (fun k => reelkeeperref02_Split.j1 k s (i : Int) false) (splitAt s (slashFrom s.data.toList (max (i + 1) (s.size - 101)))) := by
      refine Ev.step (fun _ => rfl) ?_
      simp only [reelkeeperref02_Split.j1]
      refine Ev.if_neg (by simp) ?_
      rw [hw]
      exact ih (i + 1) (by omega)
    by_cases hc : bt s (i : Int) = 47
    · have hq := (bt_is hlt 47).1 hc
      refine Ev.if_pos hc ?_
      by_cases h2 : (s.size : Int) - i - 1 ≤ 100
      · rw [show max i (s.size - 101) = i by omega, slashFrom_here hq, decide_eq_true h2]
        refine Ev.step (fun _ => rfl) ?_
        simp only [reelkeeperref02_Split.j1]
        refine Ev.if_pos trivial ?_
        rw [hw]
        unfold splitAt
        by_cases h3 : i > 155
        · refine Ev.if_pos (by omega) (Ev.of_eq fun k => ?_)
          simp only [h3, if_true]
          rfl
        · refine Ev.if_neg (by omega) (Ev.if_pos (by omega) (Ev.if_pos (by omega) (Ev.if_pos (by omega) (Ev.if_pos (by omega) (Ev.of_eq fun k => ?_)))))
          simp only [h3, if_false, Int.toNat_natCast]
      · rw [decide_eq_false h2, show max i (s.size - 101) = max (i + 1) (s.size - 101) by omega]
        exact hnext
    · refine Ev.if_neg hc ?_
      have hq : s.data.toList[i]? ≠ some 47 := fun e => hc ((bt_is hlt 47).2 e)
      by_cases h2 : s.size - 101 ≤ i
      · rw [show max i (s.size - 101) = i by omega, slashFrom_next (by omega) hq]
        rw [show max (i + 1) (s.size - 101) = i + 1 by omega] at hnext
        exact hnext
      · rw [show max i (s.size - 101) = max (i + 1) (s.size - 101) by omega]
        exact hnext

theorem ref_split (s : ByteArray) (hs : s.size ≤ 4398046511104) : Ev (fun k => reelkeeperref02_Split.f k s) (splitR s) := by
  unfold reelkeeperref02_Split.f splitR
  refine Ev.bind (ref_may s hs) ?_
  cases hm : mayL s.data.toList
  · exact Ev.of_eq fun k => rfl
  have h3 := mayL_size hm
  have hz : s.data.toList.length = s.size := Array.length_toList
  refine Ev.if_pos rfl ?_
  simp only [if_true]
  by_cases h1 : s.size ≤ 100
  · rw [_root_.if_pos h1]
    exact Ev.if_pos (by omega) (Ev.now _)
  · rw [_root_.if_neg h1]
    refine Ev.if_neg (by omega) ?_
    have := ref_split_loop s (by omega) (by omega) s.size 0 (by omega)
    rw [show max 0 (s.size - 101) = s.size - 101 by omega] at this
    exact this

end Go.Proofs.Ytekfgmpldgoglaa.X
namespace Go.Proofs.Ytekfgmpldgoglaa.X
open Go.RowKit Go.Proofs.YtekfgmpldgoglaaW.PrintWords Go.Proofs.YtekfgmpldgoglaaW.PrintLast Go.Proofs.YtekfgmpldgoglaaW.PrintMore
attribute [local go_sem] max2_int min2_int max_two min_two
set_option linter.unusedVariables false
set_option linter.unusedSimpArgs false

open Go.Proofs.YtekfgmpldgoglaaY
theorem refMany_f {n : Nat} (h : n ≤ 4398046511104) : reelkeeperref03_Many.f (n : Int) = some (manyB n : Int) := by
  unfold reelkeeperref03_Many.f manyB
  by_cases c : (n : Int) < 1
  · rw [if_pos c]
    have : n = 0 := by omega
    subst this
    rfl
  · rw [if_neg c]
    have e1 : Int.tmod (n : Int) 512 = ((n % 512 : Nat) : Int) := rfl
    have e2 : Int.tdiv (n : Int) 512 = ((n / 512 : Nat) : Int) := rfl
    rw [e1, e2, wrap_id (x := ((n / 512 : Nat) : Int)) (by omega) (by omega)]
    by_cases c2 : ((n % 512 : Nat) : Int) > 0
    · rw [if_pos c2, wrap_id (by omega) (by omega)]
      congr 1
      omega
    · rw [if_neg c2]
      congr 1
      omega
theorem padL_step {l : List Int} {i j : Nat} (hj : j < 512) (h : 512 * i + j < l.length) :
    (padL ((l.drop (512 * i)).take j)).set j (l.getD (512 * i + j) 0) = padL ((l.drop (512 * i)).take (j + 1)) := by
  have hl : ((l.drop (512 * i)).take j).length = j := by rw [List.length_take, List.length_drop]; omega
  have hd : j < (l.drop (512 * i)).length := by rw [List.length_drop]; omega
  have e : (l.drop (512 * i)).take (j + 1) = (l.drop (512 * i)).take j ++ [l.getD (512 * i + j) 0] := by
    rw [List.take_succ_eq_append_getElem hd]
    congr 2
    rw [List.getElem_drop, List.getD_eq_getElem?_getD, List.getElem?_eq_getElem h]
    rfl
  unfold padL
  rw [e, List.length_append, hl, List.length_singleton, show 512 - j = (512 - (j + 1)) + 1 by omega, List.replicate_succ, List.set_append_right _ _ (by omega), hl, Nat.sub_self, List.set_cons_zero, List.append_assoc]
  rfl
theorem bt_getD {s : ByteArray} {n : Nat} (h : n < s.size) : bt s (n : Int) = (bytesOf s).getD n 0 := by
  obtain ⟨c, h1, h2⟩ := bt_some h
  rw [h2]
  unfold bytesOf
  rw [List.getD_eq_getElem?_getD, List.getElem?_map, h1]
  rfl
theorem refCut_in (s : ByteArray) (hs : s.size ≤ 4398046511104) (acc : List (List Int)) (i : Nat) (hi : 512 * i < s.size) (ha : acc.length = i) (R : List (List Int))
    (hR : Ev (fun k => reelkeeperref03_Cut.l0 k s (acc ++ [padL (((bytesOf s).drop (512 * i)).take 512)]) ((i + 1 : Nat) : Int)) R) (d : Nat) :
    ∀ j : Nat, j + d = 512 → Ev (fun k => reelkeeperref03_Cut.l1 k s acc (i : Int) (padL (((bytesOf s).drop (512 * i)).take j)) (j : Int)) R := by
  have hz := bytesOf_length s
  have w1 : wrap64 (512 * (i : Int)) = ((512 * i : Nat) : Int) := by rw [wrap_id (by omega) (by omega)]; omega
  have w3 : wrap64 ((i : Int) + 1) = ((i + 1 : Nat) : Int) := by rw [wrap_id (by omega) (by omega)]; omega
  induction d with
  | zero =>
    intro j hj
    obtain rfl : j = 512 := by omega
    refine Ev.step (fun _ => rfl) ?_
    simp only [reelkeeperref03_Cut.l1]
    refine Ev.if_neg (by decide) (Ev.if_pos (by omega) ?_)
    rw [w3]
    exact hR
  | succ d ih =>
    intro j hj
    have w2 : wrap64 (((512 * i : Nat) : Int) + (j : Int)) = ((512 * i + j : Nat) : Int) := by rw [wrap_id (by omega) (by omega)]; omega
    have w4 : wrap64 ((j : Int) + 1) = ((j + 1 : Nat) : Int) := by rw [wrap_id (by omega) (by omega)]; omega
    refine Ev.step (fun _ => rfl) ?_
    simp only [reelkeeperref03_Cut.l1]
    rw [w1, w2, w3, w4]
    clear w1 w2 w3 w4
    refine Ev.if_pos (by omega) ?_
    have hlen : (padL (((bytesOf s).drop (512 * i)).take j)).length = 512 := padL_length (by rw [List.length_take]; omega)
    by_cases c : ((512 * i + j : Nat) : Int) < (s.size : Int)
    · refine Ev.if_pos c (Ev.if_pos (by omega) (Ev.if_pos (by omega) (Ev.if_pos (by omega) ?_)))
      rw [Int.toNat_natCast, bt_getD (by omega), padL_step (by omega) (by rw [hz]; omega)]
      exact ih (j + 1) (by omega)
    · refine Ev.if_neg c (Ev.if_pos (by omega) ?_)
      have e : ((bytesOf s).drop (512 * i)).take j = ((bytesOf s).drop (512 * i)).take 512 := by
        rw [List.take_of_length_le (by rw [List.length_drop]; omega), List.take_of_length_le (by rw [List.length_drop]; omega)]
      rw [e]
      exact hR
theorem refCut_ev (s : ByteArray) (hs : s.size ≤ 4398046511104) : Ev (fun k => reelkeeperref03_Cut.f k s) (cutL s) := by
  have hz := bytesOf_length s
  have key : ∀ (d i : Nat) (acc : List (List Int)), i + d = manyB s.size → acc.length = i → Ev (fun k => reelkeeperref03_Cut.l0 k s acc (i : Int)) (acc ++ cutB ((bytesOf s).drop (512 * i))) := by
    intro d
    induction d with
    | zero =>
      intro i acc hi ha
      unfold manyB at hi
      refine Ev.step (fun _ => rfl) ?_
      simp only [reelkeeperref03_Cut.l0]
      refine Ev.congr (fun k => by rw [refMany_f hs]) ?_
      unfold manyB
      refine Ev.if_neg (by omega) ?_
      rw [cutB_nil (by rw [List.length_drop]; omega), List.append_nil]
      exact Ev.now _
    | succ d ih =>
      intro i acc hi ha
      refine Ev.step (fun _ => rfl) ?_
      simp only [reelkeeperref03_Cut.l0]
      refine Ev.congr (fun k => by rw [refMany_f hs]) ?_
      refine Ev.if_pos (by omega) (Ev.if_pos (by decide) ?_)
      have hlt : 512 * i < s.size := by unfold manyB at hi; omega
      have h := ih (i + 1) (acc ++ [padL (((bytesOf s).drop (512 * i)).take 512)]) (by omega) (by rw [List.length_append, ha]; rfl)
      have e : cutB ((bytesOf s).drop (512 * i)) = padL (((bytesOf s).drop (512 * i)).take 512) :: cutB ((bytesOf s).drop (512 * (i + 1))) := by
        rw [cutB_cons (by rw [List.length_drop]; omega), List.drop_drop]
        rfl
      rw [List.append_assoc, List.singleton_append, ← e] at h
      have h2 := refCut_in s hs acc i hlt ha _ h 512 0 rfl
      exact h2
  have h := key (manyB s.size) 0 [] (by omega) rfl
  rw [Nat.mul_zero, List.drop_zero, List.nil_append, ← cutL_eq] at h
  exact h

end Go.Proofs.Ytekfgmpldgoglaa.X
namespace Go.Proofs.Ytekfgmpldgoglaa.X
open Go.RowKit Go.Proofs.YtekfgmpldgoglaaW.PrintWords Go.Proofs.YtekfgmpldgoglaaW.PrintLast Go.Proofs.YtekfgmpldgoglaaW.PrintMore
attribute [local go_sem] max2_int min2_int max_two min_two
set_option linter.unusedVariables false
set_option linter.unusedSimpArgs false

open Go.Proofs.YtekfgmpldgoglaaY
theorem chain_set {l : List Int} {p i : Nat} {x v : Int} (hl : l.length = 512 ∧ l.getD i 0 = v) (h : p < 512) : (l.set p x).length = 512 ∧ (l.set p x).getD i 0 = if p ≤ i ∧ i < p + 1 then x else v := by
  refine ⟨by rw [List.length_set]; exact hl.1, ?_⟩
  by_cases c : p = i
  · subst c
    rw [if_pos (by omega), List.getD_eq_getElem?_getD, List.getElem?_set_self (by omega)]
    rfl
  · rw [if_neg (by omega), List.getD_eq_getElem?_getD, List.getElem?_set_ne c, ← List.getD_eq_getElem?_getD]
    exact hl.2
set_option maxHeartbeats 1600000 in
set_option maxRecDepth 100000 in
theorem rb3_more {h : Hd} (ho : hdOk h = true) (hM : h.f8 = 77) (i : Nat) : (rb3 h).length = 512 ∧ (rb3 h).getD i 0 = cellH h i := by
  obtain ⟨⟨z0, z2, z1⟩, ⟨n3, n4, n5, n6, n7⟩, n9⟩ := hdOk_fit ho
  have l0 : (bytesOf h.f0).length = h.f0.size := bytesOf_length _
  have l1 : (bytesOf h.f1).length = h.f1.size := bytesOf_length _
  have l2 : (bytesOf h.f2).length = h.f2.size := bytesOf_length _
  have e3 := putN_len8 n3
  have e4 := putN_len8 n4
  have e5 := putN_len8 n5
  have e6 := putN_len12 n6
  have e7 := putN_len12 n7
  have e9 := putN_len12 (n9 hM).1
  have e10 := putN_len12 (n9 hM).2
  have c0 := chain_nil _ rfl i
  have c1 := chain_step (p := 0) (x := bytesOf h.f0) c0 (by first | omega | simp)
  have c2 := chain_step (p := 100) (x := (putN h.f3 8).1) c1 (by first | omega | simp)
  have c3 := chain_step (p := 108) (x := (putN h.f4 8).1) c2 (by first | omega | simp)
  have c4 := chain_step (p := 116) (x := (putN h.f5 8).1) c3 (by first | omega | simp)
  have c5 := chain_step (p := 124) (x := (putN h.f6 12).1) c4 (by first | omega | simp)
  have c6 := chain_step (p := 136) (x := (putN h.f7 12).1) c5 (by first | omega | simp)
  have c7 := chain_set (p := 156) (x := h.f8) c6 (by decide)
  have c8 := chain_step (p := 157) (x := bytesOf h.f2) c7 (by first | omega | simp)
  have c9 := chain_step (p := 257) (x := [117, 115, 116, 97, 114, 0, 48, 48]) c8 (by first | omega | simp)
  have c10 := chain_step (p := 369) (x := (putN h.f9 12).1) c9 (by first | omega | simp)
  have c11 := chain_step (p := 483) (x := (putN h.f10 12).1) c10 (by first | omega | simp)
  have hb : rb3 h = splice (splice (splice (splice ((splice (splice (splice (splice (splice (splice (List.replicate 512 0) 0 (bytesOf h.f0)) 100 ((putN h.f3 8).1)) 108 ((putN h.f4 8).1)) 116 ((putN h.f5 8).1)) 124 ((putN h.f6 12).1)) 136 ((putN h.f7 12).1)).set 156 h.f8) 157 (bytesOf h.f2)) 257 [117, 115, 116, 97, 114, 0, 48, 48]) 369 ((putN h.f9 12).1)) 483 ((putN h.f10 12).1) := by
    unfold rb3 rb2 rb1 rb0
    rw [if_pos hM]
  rw [hb]
  refine ⟨c11.1, c11.2.trans ?_⟩
  unfold cellH
  rw [if_pos hM]
  simp only [l0, l1, l2, e3, e4, e5, e6, e7, e9, e10, List.length_cons, List.length_nil, Nat.zero_add, Nat.sub_zero]
  clear c0 c1 c2 c3 c4 c5 c6 c7 c8 c9 c10 c11 hb ho n3 n4 n5 n6 n7 n9 e3 e4 e5 e6 e7 e9 e10 l0 l1 l2
  by_cases g0 : i < 100
  · by_cases gw : i < 0 + h.f0.size
    · repeat (first | rw [if_pos (by omega)] | rw [if_neg (by omega)])
    · repeat (first | rw [if_pos (by omega)] | rw [if_neg (by omega)])
      exact (byte_getD_short (by omega)).symm
  by_cases g1 : i < 108
  · repeat (first | rw [if_pos (by omega)] | rw [if_neg (by omega)])
  by_cases g2 : i < 116
  · repeat (first | rw [if_pos (by omega)] | rw [if_neg (by omega)])
  by_cases g3 : i < 124
  · repeat (first | rw [if_pos (by omega)] | rw [if_neg (by omega)])
  by_cases g4 : i < 136
  · repeat (first | rw [if_pos (by omega)] | rw [if_neg (by omega)])
  by_cases g5 : i < 148
  · repeat (first | rw [if_pos (by omega)] | rw [if_neg (by omega)])
  by_cases g6 : i < 156
  · repeat (first | rw [if_pos (by omega)] | rw [if_neg (by omega)])
  by_cases g7 : i < 157
  · obtain rfl : i = 156 := by omega
    repeat (first | rw [if_pos (by omega)] | rw [if_neg (by omega)])
  by_cases g8 : i < 257
  · by_cases gw : i < 157 + h.f2.size
    · repeat (first | rw [if_pos (by omega)] | rw [if_neg (by omega)])
    · repeat (first | rw [if_pos (by omega)] | rw [if_neg (by omega)])
      exact (byte_getD_short (by omega)).symm
  by_cases g9 : i < 265
  · repeat (first | rw [if_pos (by omega)] | rw [if_neg (by omega)])
    rfl
  by_cases g10 : i < 345
  · repeat (first | rw [if_pos (by omega)] | rw [if_neg (by omega)])
  by_cases g11 : i < 369
  · repeat (first | rw [if_pos (by omega)] | rw [if_neg (by omega)])
  by_cases g12 : i < 381
  · repeat (first | rw [if_pos (by omega)] | rw [if_neg (by omega)])
  by_cases g13 : i < 483
  · repeat (first | rw [if_pos (by omega)] | rw [if_neg (by omega)])
  by_cases g14 : i < 495
  · repeat (first | rw [if_pos (by omega)] | rw [if_neg (by omega)])
  repeat (first | rw [if_pos (by omega)] | rw [if_neg (by omega)])
set_option maxHeartbeats 1600000 in
set_option maxRecDepth 100000 in
theorem rb3_plain {h : Hd} (ho : hdOk h = true) (hM : h.f8 ≠ 77) (i : Nat) : (rb3 h).length = 512 ∧ (rb3 h).getD i 0 = cellH h i := by
  obtain ⟨⟨z0, z2, z1⟩, ⟨n3, n4, n5, n6, n7⟩, n9⟩ := hdOk_fit ho
  have l0 : (bytesOf h.f0).length = h.f0.size := bytesOf_length _
  have l1 : (bytesOf h.f1).length = h.f1.size := bytesOf_length _
  have l2 : (bytesOf h.f2).length = h.f2.size := bytesOf_length _
  have e3 := putN_len8 n3
  have e4 := putN_len8 n4
  have e5 := putN_len8 n5
  have e6 := putN_len12 n6
  have e7 := putN_len12 n7
  have z1 := z1 hM
  have c0 := chain_nil _ rfl i
  have c1 := chain_step (p := 0) (x := bytesOf h.f0) c0 (by first | omega | simp)
  have c2 := chain_step (p := 100) (x := (putN h.f3 8).1) c1 (by first | omega | simp)
  have c3 := chain_step (p := 108) (x := (putN h.f4 8).1) c2 (by first | omega | simp)
  have c4 := chain_step (p := 116) (x := (putN h.f5 8).1) c3 (by first | omega | simp)
  have c5 := chain_step (p := 124) (x := (putN h.f6 12).1) c4 (by first | omega | simp)
  have c6 := chain_step (p := 136) (x := (putN h.f7 12).1) c5 (by first | omega | simp)
  have c7 := chain_set (p := 156) (x := h.f8) c6 (by decide)
  have c8 := chain_step (p := 157) (x := bytesOf h.f2) c7 (by first | omega | simp)
  have c9 := chain_step (p := 257) (x := [117, 115, 116, 97, 114, 0, 48, 48]) c8 (by first | omega | simp)
  have c10 := chain_step (p := 345) (x := bytesOf h.f1) c9 (by first | omega | simp)
  have hb : rb3 h = splice (splice (splice ((splice (splice (splice (splice (splice (splice (List.replicate 512 0) 0 (bytesOf h.f0)) 100 ((putN h.f3 8).1)) 108 ((putN h.f4 8).1)) 116 ((putN h.f5 8).1)) 124 ((putN h.f6 12).1)) 136 ((putN h.f7 12).1)).set 156 h.f8) 157 (bytesOf h.f2)) 257 [117, 115, 116, 97, 114, 0, 48, 48]) 345 (bytesOf h.f1) := by
    unfold rb3 rb2 rb1 rb0
    rw [if_neg hM]
  rw [hb]
  refine ⟨c10.1, c10.2.trans ?_⟩
  unfold cellH
  rw [if_neg hM]
  simp only [l0, l1, l2, e3, e4, e5, e6, e7, List.length_cons, List.length_nil, Nat.zero_add, Nat.sub_zero]
  clear c0 c1 c2 c3 c4 c5 c6 c7 c8 c9 c10 hb ho n3 n4 n5 n6 n7 n9 e3 e4 e5 e6 e7 l0 l1 l2
  by_cases g0 : i < 100
  · by_cases gw : i < 0 + h.f0.size
    · repeat (first | rw [if_pos (by omega)] | rw [if_neg (by omega)])
    · repeat (first | rw [if_pos (by omega)] | rw [if_neg (by omega)])
      exact (byte_getD_short (by omega)).symm
  by_cases g1 : i < 108
  · repeat (first | rw [if_pos (by omega)] | rw [if_neg (by omega)])
  by_cases g2 : i < 116
  · repeat (first | rw [if_pos (by omega)] | rw [if_neg (by omega)])
  by_cases g3 : i < 124
  · repeat (first | rw [if_pos (by omega)] | rw [if_neg (by omega)])
  by_cases g4 : i < 136
  · repeat (first | rw [if_pos (by omega)] | rw [if_neg (by omega)])
  by_cases g5 : i < 148
  · repeat (first | rw [if_pos (by omega)] | rw [if_neg (by omega)])
  by_cases g6 : i < 156
  · repeat (first | rw [if_pos (by omega)] | rw [if_neg (by omega)])
  by_cases g7 : i < 157
  · obtain rfl : i = 156 := by omega
    repeat (first | rw [if_pos (by omega)] | rw [if_neg (by omega)])
  by_cases g8 : i < 257
  · by_cases gw : i < 157 + h.f2.size
    · repeat (first | rw [if_pos (by omega)] | rw [if_neg (by omega)])
    · repeat (first | rw [if_pos (by omega)] | rw [if_neg (by omega)])
      exact (byte_getD_short (by omega)).symm
  by_cases g9 : i < 265
  · repeat (first | rw [if_pos (by omega)] | rw [if_neg (by omega)])
    rfl
  by_cases g10 : i < 345
  · repeat (first | rw [if_pos (by omega)] | rw [if_neg (by omega)])
  by_cases gw : i < 345 + h.f1.size
  · repeat (first | rw [if_pos (by omega)] | rw [if_neg (by omega)])
  · repeat (first | rw [if_pos (by omega)] | rw [if_neg (by omega)])
    exact (byte_getD_short (by omega)).symm
theorem refBlk_eq {h : Hd} (ho : hdOk h = true) : refBlk h = hdBlk h := by
  have e : rb3 h = blk4 h := by
    have key : ∀ i, (rb3 h).length = 512 ∧ (rb3 h).getD i 0 = cellH h i := fun i => by
      by_cases hM : h.f8 = 77
      · exact rb3_more ho hM i
      · exact rb3_plain ho hM i
    refine ext_at ((key 0).1.trans (blk4_cell ho 0).1.symm) (fun i _ => (key i).2.trans (blk4_cell ho i).2.symm)
  unfold refBlk hdBlk
  rw [e]

theorem nought_drop {s : ByteArray} {i : Nat} (hi : i < s.size) : (0 ∈ s.data.toList.drop i) ↔ (bt s (i : Int) = 0 ∨ 0 ∈ s.data.toList.drop (i + 1)) := by
  obtain ⟨c, h1, h2⟩ := bt_some hi
  have hlt := (List.getElem?_eq_some_iff.1 h1).1
  have he := (List.getElem?_eq_some_iff.1 h1).2
  rw [List.drop_eq_getElem_cons hlt, he, List.mem_cons, h2]
  constructor
  · rintro (h | h)
    · left; rw [← h]; rfl
    · exact .inr h
  · rintro (h | h)
    · left; exact (UInt8.toNat_inj.1 (by simpa using Int.ofNat.inj h)).symm
    · exact .inr h
theorem word_ev (s : ByteArray) (wide : Int) (hs : s.size ≤ 4398046511104) : Ev (fun k => reelkeeperref04_word.f k s wide) (wordOk s wide) := by
  have key : ∀ (d i : Nat), i + d = s.size → Ev (fun k => reelkeeperref04_word.l0 k s wide (i : Int)) (decide ((s.size : Int) ≤ wide) && decide ((0 : UInt8) ∉ s.data.toList.drop i)) := by
    intro d
    induction d with
    | zero =>
      intro i hi
      refine Ev.step (fun _ => rfl) ?_
      simp only [reelkeeperref04_word.l0]
      refine Ev.if_neg (by omega) ?_
      rw [List.drop_of_length_le (by rw [Array.length_toList]; show s.size ≤ i; omega)]
      simp only [List.not_mem_nil, not_false_eq_true, decide_true, Bool.and_true]
      exact Ev.now _
    | succ d ih =>
      intro i hi
      refine Ev.step (fun _ => rfl) ?_
      simp only [reelkeeperref04_word.l0]
      refine Ev.if_pos (by omega) (Ev.if_pos (by omega) ?_)
      have hm := nought_drop (s := s) (i := i) (by omega)
      by_cases c : bt s (i : Int) = 0
      · refine Ev.if_pos c ?_
        rw [decide_eq_false (p := (0 : UInt8) ∉ _) (fun hn => hn (hm.2 (.inl c))), Bool.and_false]
        exact Ev.now _
      · refine Ev.if_neg c ?_
        rw [wrap_id (by omega) (by omega), show (i : Int) + 1 = ((i + 1 : Nat) : Int) by omega]
        have e : decide ((0 : UInt8) ∉ s.data.toList.drop i) = decide ((0 : UInt8) ∉ s.data.toList.drop (i + 1)) := by
          rw [Bool.eq_iff_iff, decide_eq_true_eq, decide_eq_true_eq, hm]
          simp [c]
        rw [e]
        exact ih (i + 1) (by omega)
  have h := key s.size 0 (by omega)
  rw [List.drop_zero] at h
  unfold reelkeeperref04_word.f wordOk
  have e : noNought s = decide ((0 : UInt8) ∉ s.data.toList) := by
    rw [Bool.eq_iff_iff, noNought_iff, decide_eq_true_eq]
  rw [e]
  exact h
theorem fits_f {n w : Int} (h : n ≤ 9223372036854775807) : reelkeeperref04_fits.f n w = some (putN n w).2 := by unfold reelkeeperref04_fits.f; rw [if_pos h]
def hdTail (h : Hd) : Bool := if h.f8 = 77 then (h.f1.toList == ([] : List UInt8)) && ((putN h.f9 12).2 && (putN h.f10 12).2) else typeOk h.f8 && (h.f9 == 0 && h.f10 == 0)
def hdFlat (h : Hd) : Bool := wordOk h.f0 100 && (wordOk h.f2 100 && (wordOk h.f1 155 && ((putN h.f3 8).2 && ((putN h.f4 8).2 && ((putN h.f5 8).2 && ((putN h.f6 12).2 && ((putN h.f7 12).2 && (!(h.f0.toList == ([] : List UInt8)) && hdTail h))))))))
theorem hdOk_flat (h : Hd) : hdOk h = hdFlat h := by
  unfold hdOk hdFlat hdA hdTail hdWords hdNumbers
  by_cases hM : h.f8 = 77
  · have ht : typeOk 77 = true := by decide +kernel
    have hw : h.f1.toList = [] → wordOk h.f1 155 = true := by
      intro e
      rw [Lib.toList_data] at e
      have : h.f1.size = 0 := by rw [show h.f1.size = h.f1.data.toList.length from Array.length_toList.symm, e]; rfl
      unfold wordOk
      rw [(noNought_iff _).2 (by rw [e]; simp), decide_eq_true (by omega)]
      rfl
    rw [if_pos hM, if_pos hM, if_pos hM, if_pos hM, hM, ht, Bool.eq_iff_iff]
    simp only [List.cons_append, List.nil_append, List.all_cons, List.all_nil, Bool.and_eq_true, Bool.not_eq_true', Bool.true_and, and_true, beq_iff_eq]
    constructor
    · rintro ⟨⟨a, b⟩, ⟨c, d⟩, e1, e2, e3, e4, e5, e6, e7⟩
      exact ⟨c, d, hw b, e1, e2, e3, e4, e5, a, b, e6, e7⟩
    · rintro ⟨c, d, _, e1, e2, e3, e4, e5, a, b, e6, e7⟩
      exact ⟨⟨a, b⟩, ⟨c, d⟩, e1, e2, e3, e4, e5, e6, e7⟩
  · rw [if_neg hM, if_neg hM, if_neg hM, if_neg hM, Bool.eq_iff_iff]
    simp only [List.cons_append, List.nil_append, List.all_cons, List.all_nil, Bool.and_eq_true, Bool.not_eq_true', Bool.true_and, and_true, beq_iff_eq]
    constructor
    · rintro ⟨⟨a, b, f, g⟩, ⟨c, d, x⟩, e1, e2, e3, e4, e5⟩
      exact ⟨c, d, x, e1, e2, e3, e4, e5, a, b, f, g⟩
    · rintro ⟨c, d, x, e1, e2, e3, e4, e5, a, b, f, g⟩
      exact ⟨⟨a, b, f, g⟩, ⟨c, d, x⟩, e1, e2, e3, e4, e5⟩
theorem typeOk_iff {t : Int} (h : 0 ≤ t ∧ t ≤ 255) : typeOk t = true ↔ t = 48 ∨ t = 49 ∨ t = 50 ∨ t = 53 ∨ t = 75 ∨ t = 76 ∨ t = 77 ∨ t = 86 := by
  obtain ⟨n, rfl⟩ := Int.eq_ofNat_of_zero_le h.1
  have hn : n < 256 := by omega
  have key : ∀ m : Fin 256, typeOk ((m.val : Nat) : Int) = true ↔ ((m.val : Nat) : Int) = 48 ∨ ((m.val : Nat) : Int) = 49 ∨ ((m.val : Nat) : Int) = 50 ∨ ((m.val : Nat) : Int) = 53 ∨ ((m.val : Nat) : Int) = 75 ∨ ((m.val : Nat) : Int) = 76 ∨ ((m.val : Nat) : Int) = 77 ∨ ((m.val : Nat) : Int) = 86 := by decide +kernel
  exact key ⟨n, hn⟩
theorem hdTail_more {h : Hd} (hM : h.f8 = 77) : hdTail h = ((h.f1.toList == ([] : List UInt8)) && ((putN h.f9 12).2 && (putN h.f10 12).2)) := if_pos hM
theorem hdTail_plain {h : Hd} (hM : h.f8 ≠ 77) : hdTail h = (typeOk h.f8 && (h.f9 == 0 && h.f10 == 0)) := if_neg hM
theorem isE (s : ByteArray) : s.toList.isEmpty = (s.toList == ([] : List UInt8)) := by cases s.toList <;> rfl
theorem mayT_tail (h : Hd) (ht : 0 ≤ h.f8 ∧ h.f8 ≤ 255) : mayT (putN h.f9 12).2 (putN h.f10 12).2 h.f1 h.f8 h.f9 h.f10 = hdTail h := by
  unfold mayT
  by_cases hM : h.f8 = 77
  · rw [if_pos hM, hdTail_more hM, isE]
  · rw [if_neg hM, hdTail_plain hM]
    congr 1
    rw [Bool.eq_iff_iff, typeOk_iff ht]
    simp only [Bool.or_eq_true, beq_iff_eq]
    omega
theorem refMay_ev (h : Hd) (hh : hdIn h) (h0 : h.f0.size ≤ 4398046511104) (h1 : h.f1.size ≤ 4398046511104) (h2 : h.f2.size ≤ 4398046511104) : Ev (fun k => reelkeeperref04_May.f k h.f0 h.f1 h.f2 h.f3 h.f4 h.f5 h.f6 h.f7 h.f8 h.f9 h.f10) (hdOk h) := by
  obtain ⟨ht, g3, g4, g5, g6, g7, g9, g10⟩ := id hh
  rw [hdOk_flat]
  unfold reelkeeperref04_May.f hdFlat
  refine Ev.bind (word_ev _ _ h0) (Ev.bind (word_ev _ _ h2) (Ev.bind (word_ev _ _ h1) ?_))
  rw [fits_f g3, fits_f g4, fits_f g5, fits_f g6, fits_f g7, fits_f g9, fits_f g10]
  simp only [Option.bind_some]
  unfold mayR
  rw [mayT_tail h ht, isE]
  exact Ev.now _
/-- The reference puts the same block. -/
theorem refPut_ev (h : Hd) (hh : hdIn h) (h0 : h.f0.size ≤ 4398046511104) (h1 : h.f1.size ≤ 4398046511104) (h2 : h.f2.size ≤ 4398046511104) : Ev (fun k => reelkeeperref04_Put.f k h.f0 h.f1 h.f2 h.f3 h.f4 h.f5 h.f6 h.f7 h.f8 h.f9 h.f10) (headPut h) := by
  unfold reelkeeperref04_Put.f headPut
  refine Ev.if_pos hh ?_
  refine Ev.bind (refMay_ev h hh h0 h1 h2) ?_
  cases ho : hdOk h with
  | true =>
    rw [_root_.if_pos rfl]
    refine Ev.if_pos rfl ?_
    rw [← refBlk_eq ho]
    exact Ev.now _
  | false =>
    rw [_root_.if_neg (by decide)]
    exact Ev.now _

end Go.Proofs.Ytekfgmpldgoglaa.X
namespace Go.Proofs.Ytekfgmpldgoglaa.X
open Go.RowKit Go.Proofs.YtekfgmpldgoglaaW.PrintWords Go.Proofs.YtekfgmpldgoglaaW.PrintLast Go.Proofs.YtekfgmpldgoglaaW.PrintMore
attribute [local go_sem] max2_int min2_int max_two min_two
set_option linter.unusedVariables false
set_option linter.unusedSimpArgs false

open Go.Proofs.YtekfgmpldgoglaaY
theorem ref_text (s : ByteArray) (hs : s.size ≤ 4398046511104) : Ev (fun k => reelkeeperref05_Text.f k s) (textB s) := by
  have hln : s.data.toList.length = s.size := Array.length_toList
  have key : ∀ (d i : Nat), i + d = s.size → (0 : UInt8) ∉ s.data.toList.take i → Ev (fun k => reelkeeperref05_Text.l0 k s (i : Int)) (textB s) := by
    intro d
    induction d with
    | zero =>
      intro i hi hn
      rw [List.take_of_length_le (by omega)] at hn
      have hc : s.data.toList.contains 0 = false := by
        cases h : s.data.toList.contains 0 with
        | false => rfl
        | true => exact absurd (List.contains_iff_mem.1 h) hn
      refine Ev.step (fun _ => rfl) ?_
      simp only [reelkeeperref05_Text.l0]
      refine Ev.if_neg (by omega) ?_
      unfold textB
      rw [hc]
      by_cases h1 : 1 ≤ s.size
      · refine Ev.if_pos (by omega) ?_
        rw [decide_eq_true h1, Bool.true_and, Bool.not_false, Bool.and_true]
        have : decide ((s.size : Int) ≤ 300) = decide (s.size ≤ 300) := by congr 1; exact propext ⟨fun _ => by omega, fun _ => by omega⟩
        rw [this]
        exact Ev.now _
      · refine Ev.if_neg (by omega) ?_
        rw [decide_eq_false h1, Bool.false_and]
        exact Ev.now _
    | succ d ih =>
      intro i hi hn
      have hlt : i < s.size := by omega
      have hll : i < s.data.toList.length := by omega
      refine Ev.step (fun _ => rfl) ?_
      simp only [reelkeeperref05_Text.l0]
      refine Ev.if_pos (by omega) ?_
      refine Ev.if_pos (by omega) ?_
      by_cases h0 : bt s (i : Int) = 0
      · refine Ev.if_pos h0 ?_
        have hm : (0 : UInt8) ∈ s.data.toList := List.mem_of_getElem? ((bt_is hlt 0).1 h0)
        have : textB s = false := by
          unfold textB
          rw [List.contains_iff_mem.2 hm]
          simp
        rw [this]
        exact Ev.now _
      · refine Ev.if_neg h0 ?_
        have hw : wrap64 ((i : Int) + 1) = ((i + 1 : Nat) : Int) := by rw [wrap_id (by omega) (by omega)]; omega
        rw [hw]
        refine ih (i + 1) (by omega) ?_
        rw [List.take_succ_eq_append_getElem hll]
        simp only [List.mem_append, List.mem_singleton, not_or]
        exact ⟨hn, fun e => h0 ((bt_is hlt 0).2 (by rw [List.getElem?_eq_getElem hll, ← e]))⟩
  exact key s.size 0 (by omega) (by simp)

end Go.Proofs.Ytekfgmpldgoglaa.X
namespace Go.Proofs.Ytekfgmpldgoglaa.X
open Go.RowKit Go.Proofs.YtekfgmpldgoglaaW.PrintWords Go.Proofs.YtekfgmpldgoglaaW.PrintLast Go.Proofs.YtekfgmpldgoglaaW.PrintMore
attribute [local go_sem] max2_int min2_int max_two min_two
set_option linter.unusedVariables false
set_option linter.unusedSimpArgs false

open Go.Proofs.YtekfgmpldgoglaaY
theorem Ev.mapd {α β : Type} {g : Nat → Option α} {r : α} (f : α → β) (h : Ev g r) : Ev (fun k => (g k).map f) (f r) := by
  obtain ⟨K, hK⟩ := h
  exact ⟨K, fun k hk => by simp only [hK k hk, Option.map_some]⟩
theorem strNought : strOfNums [0] = (⟨#[0]⟩ : ByteArray) := rfl
theorem refLong_ev {kind : Int} {s : ByteArray} (h : 0 ≤ kind ∧ kind ≤ 255) (hs : s.size ≤ 10000) : Ev (fun k => refLong k kind s) (longL kind s) := by
  unfold refLong
  have hp := refPut_ev (longHd kind s) (longHd_in h hs) (by show 13 ≤ _; decide) (by show 0 ≤ _; decide) (by show 0 ≤ _; decide)
  refine Ev.bind hp ?_
  rw [strNought]
  refine Ev.bind (refCut_ev _ (by rw [ByteArray.size_append]; show s.size + 1 ≤ _; omega)) ?_
  refine Ev.if_pos ⟨hs, ?_⟩ (Ev.now _)
  rw [cutL_eq, (cutB_length _ _ rfl).1, bytesOf_length, ByteArray.size_append]
  show manyB (s.size + 1) ≤ _
  unfold manyB
  omega
theorem refPut5_ev {kind : Int} {s : ByteArray} (h : 0 ≤ kind ∧ kind ≤ 255) (hs : s.size ≤ 10000) : Ev (fun k => reelkeeperref05_Put.f k kind s) (longB kind s) := by
  unfold reelkeeperref05_Put.f
  refine Ev.bind (ref_text s (by omega)) ?_
  unfold longB
  by_cases ho : longOk kind (textB s) = true
  · rw [_root_.if_pos ho]
    refine Ev.if_pos ho ?_
    exact Ev.mapd (fun l => (l, true)) (refLong_ev h hs)
  · rw [_root_.if_neg ho]
    exact Ev.if_neg ho (Ev.now _)
theorem refNeeds_ev (a0 a1 : ByteArray) (a2 a3 a4 a5 a6 : Int) (a7 : ByteArray) (h : a0.size ≤ 10000) : Ev (fun k => reelkeeperref05_Needs.f k a0 a1 a2 a3 a4 a5 a6 a7) (needsB a0 a1) := by
  unfold reelkeeperref05_Needs.f needsB
  refine Ev.bind (ref_may a0 (by omega)) (Ev.bind (ref_split a0 (by omega)) ?_)
  cases mayL a0.data.toList with
  | true => exact Ev.if_pos rfl (by rw [Bool.and_true]; exact Ev.now _)
  | false => exact Ev.if_neg (by decide) (by rw [Bool.and_false]; exact Ev.now _)
theorem short_f (s : ByteArray) : reelkeeperref05_short.f s = some (shortB s) := by
  unfold reelkeeperref05_short.f shortB
  by_cases h : 100 < s.size
  · rw [if_pos (by omega), if_pos (by decide), if_pos (by omega), if_pos h]
  · rw [if_neg (by omega), if_neg h]
theorem refNames_ev (a0 a1 : ByteArray) (a2 a3 a4 a5 a6 : Int) (a7 : ByteArray) (h : a0.size ≤ 10000) : Ev (fun k => reelkeeperref05_Names.f k a0 a1 a2 a3 a4 a5 a6 a7) (namesB a0 a1) := by
  unfold reelkeeperref05_Names.f namesB
  refine Ev.bind (refNeeds_ev a0 a1 a2 a3 a4 a5 a6 a7 h) ?_
  cases hq : (needsB a0 a1).1 with
  | true =>
    refine Ev.if_pos rfl (Ev.of_eq fun _ => ?_)
    rw [short_f, short_f, needs_split hq]
    rfl
  | false =>
    refine Ev.if_neg (by decide) (Ev.bind (ref_split a0 (by omega)) (Ev.of_eq fun _ => ?_))
    rw [short_f]
    rfl
theorem refAheadF_ev {is : Bool} {kind : Int} {s : ByteArray} (h : 0 ≤ kind ∧ kind ≤ 255) (hs : s.size ≤ 10000) : Ev (fun k => refAhead k is kind s) (if is = true then (longB kind s).1 else []) := by
  unfold refAhead
  cases is with
  | true =>
    exact Ev.if_pos rfl (Ev.mapd (fun l => l.1) (refPut5_ev h hs))
  | false => exact Ev.now _
theorem refAhead_ev (a0 a1 : ByteArray) (a2 a3 a4 a5 a6 : Int) (a7 : ByteArray) (h0 : a0.size ≤ 10000) (h1 : a1.size ≤ 10000) : Ev (fun k => reelkeeperref05_Ahead.f k a0 a1 a2 a3 a4 a5 a6 a7) (aheadB a0 a1) := by
  unfold reelkeeperref05_Ahead.f
  refine Ev.bind (refNeeds_ev a0 a1 a2 a3 a4 a5 a6 a7 h0) (Ev.bind (refAheadF_ev (by decide) h1) (Ev.bind (refAheadF_ev (by decide) h0) ?_))
  exact Ev.if_pos (aheadB_length h0 h1) (Ev.now _)

end Go.Proofs.Ytekfgmpldgoglaa.X
