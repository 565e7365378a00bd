/- A node's bytes, out of what is told, plainly. -/
import Derived.Test.YtoahjigjlgcjkaaXK
import Derived.Test.YtoahjigjlgcjkaaXGpj
import Derived.Test.YtoahjigjlgcjkaaXGentry
import Derived.Test.YtoahjigjlgcjkaaYAll
import Derived.Test.YtoahjigjlgcjkaaYAll
import Derived.Test.YtoahjigjlgcjkaaYAll
import Derived.Test.YtoahjigjlgcjkaaYAll
import Derived.Test.YtoahjigjlgcjkaaPGA
import Derived.Test.YtoahjigjlgcjkaaPGA
import Derived.Test.YtoahjigjlgcjkaaPGA
import Derived.Test.YtoahjigjlgcjkaaPGA
import Derived.Test.YtoahjigjlgcjkaaPGA
import Derived.Test.YtoahjigjlgcjkaaPGE
import Derived.Test.YtoahjigjlgcjkaaPGE
import Derived.Test.YtoahjigjlgcjkaaPGE
import Derived.Test.YtoahjigjlgcjkaaP04g
import Derived.Test.YtoahjigjlgcjkaaPGE
import Derived.Test.YtoahjigjlgcjkaaP09a
import Derived.Test.YtoahjigjlgcjkaaP09n
namespace Go.Proofs.Ytoahjigjlgcjkaa.X
open Go.RowKit Go.Proofs.YtoahjigjlgcjkaaW.PrintWords Go.Proofs.YtoahjigjlgcjkaaW.PrintLast Go.Proofs.YtoahjigjlgcjkaaW.PrintMore
attribute [local go_sem] max2_int min2_int max_two min_two
set_option linter.unusedVariables false
set_option linter.unusedSimpArgs false

open Go.Proofs.YtoahjigjlgcjkaaY
def catE (a : ByteArray) (l : List Evt) : ByteArray := l.foldl (fun s v => s ++ v.f2) a
theorem str_append (a b : List Int) : strOfNums (a ++ b) = strOfNums a ++ strOfNums b := by
  apply ByteArray.ext
  apply Array.ext'
  rw [app_data]
  show (a ++ b).map (fun n : Int => UInt8.ofNat n.toNat) = a.map (fun n : Int => UInt8.ofNat n.toNat) ++ b.map (fun n : Int => UInt8.ofNat n.toNat)
  rw [List.map_append]
theorem cat_data : ∀ (d : Nat) (r : List Int), r.length = d → ∀ a, catE a (dataEvs r) = a ++ strOfNums r := by
  intro d
  induction d using Nat.strongRecOn with
  | _ d ih =>
  intro r hd a
  by_cases c : r.length = 0
  · rw [dataEvs_nil c, List.eq_nil_of_length_eq_zero c]
    show a = a ++ strOfNums []
    rw [show strOfNums [] = ByteArray.empty from rfl, ByteArray.append_empty]
  · rw [dataEvs_cons c]
    show catE (a ++ strOfNums (r.take 512)) (dataEvs (r.drop 512)) = _
    have hl : (r.drop 512).length = r.length - 512 := List.length_drop
    rw [ih _ (by omega) _ rfl, ByteArray.append_assoc, ← str_append, List.take_append_drop]
theorem cat_node (s : ByteArray) : catE ⟨#[]⟩ (dataEvs (bytesOf s)) = s := by
  rw [cat_data _ _ rfl, str_bytesOf]
  exact ByteArray.empty_append
theorem data_kind : ∀ (d : Nat) (r : List Int), r.length = d → ∀ v ∈ dataEvs r, v.f0 = 1 ∧ 1 ≤ v.f2.size ∧ v.f2.size ≤ 512 ∧ v.f1 = nd00 := by
  intro d
  induction d using Nat.strongRecOn with
  | _ d ih =>
  intro r hd v hv
  by_cases c : r.length = 0
  · rw [dataEvs_nil c] at hv; cases hv
  · rw [dataEvs_cons c] at hv
    rcases List.mem_cons.1 hv with rfl | hv
    · refine ⟨rfl, ?_⟩
      show 1 ≤ (strOfNums (r.take 512)).size ∧ (strOfNums (r.take 512)).size ≤ 512 ∧ nd00 = nd00
      rw [strOfNums_size, List.length_take]; exact ⟨by omega, by omega, rfl⟩
    · have hl : (r.drop 512).length = r.length - 512 := List.length_drop
      exact ih _ (by omega) _ rfl v hv
theorem data_count : ∀ (d : Nat) (r : List Int), r.length = d → (dataEvs r).length = (d + 511) / 512 := by
  intro d
  induction d using Nat.strongRecOn with
  | _ d ih =>
  intro r hd
  by_cases c : r.length = 0
  · rw [dataEvs_nil c]; show 0 = _; omega
  · have hl : (r.drop 512).length = r.length - 512 := List.length_drop
    rw [dataEvs_cons c, List.length_cons, ih _ (by omega) _ rfl]; omega
theorem cat_size : ∀ (l : List Evt) (a : ByteArray), a.size ≤ (catE a l).size
  | [], a => Nat.le_refl _
  | v :: l, a => by
    have h := cat_size l (a ++ v.f2)
    rw [ByteArray.size_append] at h
    show a.size ≤ (catE (a ++ v.f2) l).size
    omega
theorem cat_take {l : List Evt} {i : Nat} {v : Evt} (h : l[i]? = some v) (a : ByteArray) : catE a (l.take (i + 1)) = catE a (l.take i) ++ v.f2 := by
  unfold catE
  rw [List.take_add_one, h, List.foldl_append]
  rfl
theorem cat_le (l : List Evt) (i : Nat) (a : ByteArray) : (catE a (l.take i)).size ≤ (catE a l).size := by
  have h := cat_size (l.drop i) (catE a (l.take i))
  have e : catE (catE a (l.take i)) (l.drop i) = catE a l := by
    unfold catE
    rw [← List.foldl_append, List.take_append_drop]
  rw [e] at h
  exact h
/-- A run over a node's blocks. -/
theorem runR_node {n : Nd} (ho : oneB n = true) : runR st0 (entryB n) = (st0, evsOf n, (entryB n).length, 0) := by
  have h := run_node ho [] [] 0
  rw [List.append_nil, Nat.zero_add] at h
  exact h

end Go.Proofs.Ytoahjigjlgcjkaa.X
