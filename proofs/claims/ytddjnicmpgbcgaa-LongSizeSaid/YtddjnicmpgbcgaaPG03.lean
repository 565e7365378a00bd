/- Blocks, plainly: a text's blocks by its bytes. -/
import Derived.Test.YtddjnicmpgbcgaaXK
import Derived.Test.YtddjnicmpgbcgaaXGblock
import Derived.Test.YtddjnicmpgbcgaaYIter
import Derived.Test.YtddjnicmpgbcgaaYCopy
import Derived.Test.YtddjnicmpgbcgaaYRIn
import Derived.Test.YtddjnicmpgbcgaaYConv
import Derived.Test.YtddjnicmpgbcgaaXGreelkeeperref03
import Derived.Test.YtddjnicmpgbcgaaYPath
import Derived.Test.YtddjnicmpgbcgaaPG02
import Derived.Lib.IndexAny
namespace Go.Proofs.Ytddjnicmpgbcgaa.X
open Go.RowKit Go.Proofs.YtddjnicmpgbcgaaW.PrintWords Go.Proofs.YtddjnicmpgbcgaaW.PrintLast Go.Proofs.YtddjnicmpgbcgaaW.PrintMore
attribute [local go_sem] max2_int min2_int max_two min_two max_three min_three max_four min_four
set_option linter.unusedVariables false
set_option linter.unusedSimpArgs false

open Go.Proofs.YtddjnicmpgbcgaaY
def padL (x : List Int) : List Int := x ++ List.replicate (512 - x.length) 0
def cutB (l : List Int) : List (List Int) := if l.length = 0 then [] else padL (l.take 512) :: cutB (l.drop 512)
  termination_by l.length
  decreasing_by simp only [List.length_drop]; omega
theorem cutB_nil {l : List Int} (h : l.length = 0) : cutB l = [] := by rw [cutB, if_pos h]
theorem cutB_cons {l : List Int} (h : l.length ≠ 0) : cutB l = padL (l.take 512) :: cutB (l.drop 512) := by rw [cutB, if_neg h]
theorem bytesOf_extract (s : ByteArray) (a b : Nat) : bytesOf (s.extract a b) = ((bytesOf s).drop a).take (b - a) := by
  unfold bytesOf
  rw [Lib.extract_data, List.map_take, List.map_drop]
theorem cutL_cutB : ∀ (n : Nat) (s : ByteArray), s.size = n → cutL s = cutB (bytesOf s) := by
  intro n
  induction n using Nat.strongRecOn with
  | _ n ih =>
  intro s hs
  unfold cutL
  by_cases h : s.size = 0
  · rw [piecesA_nil h, cutB_nil (by rw [bytesOf_length]; exact h)]; rfl
  · have hz : (s.extract (min s.size 512) s.size).size = s.size - min s.size 512 := by rw [ByteArray.size_extract]; omega
    have h2 := ih _ (by omega) (s.extract (min s.size 512) s.size) hz
    unfold cutL at h2
    rw [piecesA_cons h, List.map_cons, h2, cutB_cons (l := bytesOf s) (by rw [bytesOf_length]; exact h), bytesOf_extract]
    have hl := bytesOf_length s
    refine congr (congrArg List.cons ?_) (congrArg cutB ?_)
    · unfold padB padL
      rw [bytesOf_extract, List.drop_zero, ByteArray.size_extract, List.length_take, hl]
      congr 1
      · by_cases c : s.size ≤ 512
        · rw [show min s.size 512 - 0 = s.size by omega, List.take_of_length_le (by omega), List.take_of_length_le (by omega)]
        · rw [show min s.size 512 - 0 = 512 by omega]
      · congr 1; omega
    · by_cases c : s.size ≤ 512
      · rw [List.drop_of_length_le (by omega), List.take_nil, List.drop_of_length_le (by omega)]
      · rw [show min s.size 512 = 512 by omega, List.take_of_length_le (by rw [List.length_drop]; omega)]
theorem cutL_eq (s : ByteArray) : cutL s = cutB (bytesOf s) := cutL_cutB _ s rfl
/-- How many blocks bytes take. -/
def manyB (n : Nat) : Nat := (n + 511) / 512
theorem padL_length {x : List Int} (h : x.length ≤ 512) : (padL x).length = 512 := by unfold padL; rw [List.length_append, List.length_replicate]; omega
theorem cutB_length : ∀ (n : Nat) (l : List Int), l.length = n → (cutB l).length = manyB n ∧ ∀ x ∈ cutB l, x.length = 512 := by
  intro n
  induction n using Nat.strongRecOn with
  | _ n ih =>
  intro l hl
  by_cases h : l.length = 0
  · rw [cutB_nil h]
    unfold manyB
    exact ⟨by rw [List.length_nil]; omega, fun x hx => by cases hx⟩
  · rw [cutB_cons h]
    obtain ⟨h1, h2⟩ := ih (l.length - 512) (by omega) (l.drop 512) (by rw [List.length_drop])
    unfold manyB at h1 ⊢
    refine ⟨by rw [List.length_cons, h1]; omega, fun x hx => ?_⟩
    rcases List.mem_cons.1 hx with rfl | hx
    · exact padL_length (by rw [List.length_take]; omega)
    · exact h2 x hx
theorem cutB_join : ∀ (n : Nat) (l : List Int), l.length = n → ∃ z, (cutB l).flatten = l ++ List.replicate z 0 := by
  intro n
  induction n using Nat.strongRecOn with
  | _ n ih =>
  intro l hl
  by_cases h : l.length = 0
  · rw [cutB_nil h]
    exact ⟨0, by rw [List.eq_nil_of_length_eq_zero h]; rfl⟩
  · rw [cutB_cons h, List.flatten_cons]
    by_cases c : 512 ≤ l.length
    · obtain ⟨z, hz⟩ := ih (l.length - 512) (by omega) (l.drop 512) (by rw [List.length_drop])
      refine ⟨z, ?_⟩
      rw [hz]
      unfold padL
      rw [List.length_take, show 512 - min 512 l.length = 0 by omega, List.replicate_zero, List.append_nil, ← List.append_assoc, List.take_append_drop]
    · refine ⟨512 - l.length, ?_⟩
      rw [List.drop_of_length_le (by omega), cutB_nil rfl, List.flatten_nil, List.append_nil]
      unfold padL
      rw [List.take_of_length_le (by omega)]
/-- What is cut is whole again. -/
theorem cutB_take (l : List Int) : (cutB l).flatten.take l.length = l := by
  obtain ⟨z, hz⟩ := cutB_join _ l rfl
  rw [hz, List.take_left]
theorem cutB_inj {a b : List Int} (hl : a.length = b.length) (h : cutB a = cutB b) : a = b := by
  rw [← cutB_take a, ← cutB_take b, h, hl]
theorem bytesOf_inj {a b : ByteArray} (h : bytesOf a = bytesOf b) : a = b := by
  apply ByteArray.ext
  apply Array.ext'
  unfold bytesOf at h
  exact List.map_inj_right (fun x y e => UInt8.toNat_inj.1 (Int.ofNat.inj e)) |>.1 h
theorem bytesOf_append (a b : ByteArray) : bytesOf (a ++ b) = bytesOf a ++ bytesOf b := by
  unfold bytesOf
  rw [show (a ++ b).data.toList = a.data.toList ++ b.data.toList by simp, List.map_append]

end Go.Proofs.Ytddjnicmpgbcgaa.X
namespace Go.Proofs.Ytddjnicmpgbcgaa.X
open Go.RowKit Go.Proofs.YtddjnicmpgbcgaaW.PrintWords Go.Proofs.YtddjnicmpgbcgaaW.PrintLast Go.Proofs.YtddjnicmpgbcgaaW.PrintMore
attribute [local go_sem] max2_int min2_int max_two min_two max_three min_three max_four min_four
set_option linter.unusedVariables false
set_option linter.unusedSimpArgs false

open Go.Proofs.YtddjnicmpgbcgaaY
theorem refMany_f {n : Nat} (h : n ≤ 4398046511104) : reelkeeperref03_Many.f (n : Int) = some (manyB n : Int) := by
  unfold reelkeeperref03_Many.f manyB
  by_cases c : (n : Int) < 1
  · rw [if_pos c]
    have : n = 0 := by omega
    subst this
    rfl
  · rw [if_neg c]
    have e1 : Int.tmod (n : Int) 512 = ((n % 512 : Nat) : Int) := rfl
    have e2 : Int.tdiv (n : Int) 512 = ((n / 512 : Nat) : Int) := rfl
    rw [e1, e2, wrap_id (x := ((n / 512 : Nat) : Int)) (by omega) (by omega)]
    by_cases c2 : ((n % 512 : Nat) : Int) > 0
    · rw [if_pos c2, wrap_id (by omega) (by omega)]
      congr 1
      omega
    · rw [if_neg c2]
      congr 1
      omega
theorem padL_step {l : List Int} {i j : Nat} (hj : j < 512) (h : 512 * i + j < l.length) :
    (padL ((l.drop (512 * i)).take j)).set j (l.getD (512 * i + j) 0) = padL ((l.drop (512 * i)).take (j + 1)) := by
  have hl : ((l.drop (512 * i)).take j).length = j := by rw [List.length_take, List.length_drop]; omega
  have hd : j < (l.drop (512 * i)).length := by rw [List.length_drop]; omega
  have e : (l.drop (512 * i)).take (j + 1) = (l.drop (512 * i)).take j ++ [l.getD (512 * i + j) 0] := by
    rw [List.take_succ_eq_append_getElem hd]
    congr 2
    rw [List.getElem_drop, List.getD_eq_getElem?_getD, List.getElem?_eq_getElem h]
    rfl
  unfold padL
  rw [e, List.length_append, hl, List.length_singleton, show 512 - j = (512 - (j + 1)) + 1 by omega, List.replicate_succ, List.set_append_right _ _ (by omega), hl, Nat.sub_self, List.set_cons_zero, List.append_assoc]
  rfl
theorem bt_getD {s : ByteArray} {n : Nat} (h : n < s.size) : bt s (n : Int) = (bytesOf s).getD n 0 := by
  obtain ⟨c, h1, h2⟩ := bt_some h
  rw [h2]
  unfold bytesOf
  rw [List.getD_eq_getElem?_getD, List.getElem?_map, h1]
  rfl
theorem refCut_in (s : ByteArray) (hs : s.size ≤ 4398046511104) (acc : List (List Int)) (i : Nat) (hi : 512 * i < s.size) (ha : acc.length = i) (R : List (List Int))
    (hR : Ev (fun k => reelkeeperref03_Cut.l0 k s (acc ++ [padL (((bytesOf s).drop (512 * i)).take 512)]) ((i + 1 : Nat) : Int)) R) (d : Nat) :
    ∀ j : Nat, j + d = 512 → Ev (fun k => reelkeeperref03_Cut.l1 k s acc (i : Int) (padL (((bytesOf s).drop (512 * i)).take j)) (j : Int)) R := by
  have hz := bytesOf_length s
  have w1 : wrap64 (512 * (i : Int)) = ((512 * i : Nat) : Int) := by rw [wrap_id (by omega) (by omega)]; omega
  have w3 : wrap64 ((i : Int) + 1) = ((i + 1 : Nat) : Int) := by rw [wrap_id (by omega) (by omega)]; omega
  induction d with
  | zero =>
    intro j hj
    obtain rfl : j = 512 := by omega
    refine Ev.step (fun _ => rfl) ?_
    simp only [reelkeeperref03_Cut.l1]
    refine Ev.if_neg (by decide) (Ev.if_pos (by omega) ?_)
    rw [w3]
    exact hR
  | succ d ih =>
    intro j hj
    have w2 : wrap64 (((512 * i : Nat) : Int) + (j : Int)) = ((512 * i + j : Nat) : Int) := by rw [wrap_id (by omega) (by omega)]; omega
    have w4 : wrap64 ((j : Int) + 1) = ((j + 1 : Nat) : Int) := by rw [wrap_id (by omega) (by omega)]; omega
    refine Ev.step (fun _ => rfl) ?_
    simp only [reelkeeperref03_Cut.l1]
    rw [w1, w2, w3, w4]
    clear w1 w2 w3 w4
    refine Ev.if_pos (by omega) ?_
    have hlen : (padL (((bytesOf s).drop (512 * i)).take j)).length = 512 := padL_length (by rw [List.length_take]; omega)
    by_cases c : ((512 * i + j : Nat) : Int) < (s.size : Int)
    · refine Ev.if_pos c (Ev.if_pos (by omega) (Ev.if_pos (by omega) (Ev.if_pos (by omega) ?_)))
      rw [Int.toNat_natCast, bt_getD (by omega), padL_step (by omega) (by rw [hz]; omega)]
      exact ih (j + 1) (by omega)
    · refine Ev.if_neg c (Ev.if_pos (by omega) ?_)
      have e : ((bytesOf s).drop (512 * i)).take j = ((bytesOf s).drop (512 * i)).take 512 := by
        rw [List.take_of_length_le (by rw [List.length_drop]; omega), List.take_of_length_le (by rw [List.length_drop]; omega)]
      rw [e]
      exact hR
theorem refCut_ev (s : ByteArray) (hs : s.size ≤ 4398046511104) : Ev (fun k => reelkeeperref03_Cut.f k s) (cutL s) := by
  have hz := bytesOf_length s
  have key : ∀ (d i : Nat) (acc : List (List Int)), i + d = manyB s.size → acc.length = i → Ev (fun k => reelkeeperref03_Cut.l0 k s acc (i : Int)) (acc ++ cutB ((bytesOf s).drop (512 * i))) := by
    intro d
    induction d with
    | zero =>
      intro i acc hi ha
      unfold manyB at hi
      refine Ev.step (fun _ => rfl) ?_
      simp only [reelkeeperref03_Cut.l0]
      refine Ev.congr (fun k => by rw [refMany_f hs]) ?_
      unfold manyB
      refine Ev.if_neg (by omega) ?_
      rw [cutB_nil (by rw [List.length_drop]; omega), List.append_nil]
      exact Ev.now _
    | succ d ih =>
      intro i acc hi ha
      refine Ev.step (fun _ => rfl) ?_
      simp only [reelkeeperref03_Cut.l0]
      refine Ev.congr (fun k => by rw [refMany_f hs]) ?_
      refine Ev.if_pos (by omega) (Ev.if_pos (by decide) ?_)
      have hlt : 512 * i < s.size := by unfold manyB at hi; omega
      have h := ih (i + 1) (acc ++ [padL (((bytesOf s).drop (512 * i)).take 512)]) (by omega) (by rw [List.length_append, ha]; rfl)
      have e : cutB ((bytesOf s).drop (512 * i)) = padL (((bytesOf s).drop (512 * i)).take 512) :: cutB ((bytesOf s).drop (512 * (i + 1))) := by
        rw [cutB_cons (by rw [List.length_drop]; omega), List.drop_drop]
        rfl
      rw [List.append_assoc, List.singleton_append, ← e] at h
      have h2 := refCut_in s hs acc i hlt ha _ h 512 0 rfl
      exact h2
  have h := key (manyB s.size) 0 [] (by omega) rfl
  rw [Nat.mul_zero, List.drop_zero, List.nil_append, ← cutL_eq] at h
  exact h
theorem sameF_self (l : List (List Int)) : sameF l l = true := decide_eq_true rfl

end Go.Proofs.Ytddjnicmpgbcgaa.X
