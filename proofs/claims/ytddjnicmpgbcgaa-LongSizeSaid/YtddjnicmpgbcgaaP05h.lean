/- Long names, plainly: the headers ahead of them. -/
import Derived.Test.YtddjnicmpgbcgaaXK
import Derived.Test.YtddjnicmpgbcgaaXGlong
import Derived.Test.YtddjnicmpgbcgaaYPath
import Derived.Test.YtddjnicmpgbcgaaYBytes
import Derived.Test.YtddjnicmpgbcgaaYCopy
import Derived.Test.YtddjnicmpgbcgaaYConv
import Derived.Test.YtddjnicmpgbcgaaPG02
import Derived.Test.YtddjnicmpgbcgaaPG02
import Derived.Test.YtddjnicmpgbcgaaPG03
import Derived.Test.YtddjnicmpgbcgaaPG04
import Derived.Test.YtddjnicmpgbcgaaPG04
import Derived.Test.YtddjnicmpgbcgaaPG05
import Derived.Test.YtddjnicmpgbcgaaPG05
import Derived.Test.YtddjnicmpgbcgaaPG05
import Derived.Test.YtddjnicmpgbcgaaPG05
import Derived.Lib.IndexAny
namespace Go.Proofs.Ytddjnicmpgbcgaa.X
open Go.RowKit Go.Proofs.YtddjnicmpgbcgaaW.PrintWords Go.Proofs.YtddjnicmpgbcgaaW.PrintLast Go.Proofs.YtddjnicmpgbcgaaW.PrintMore
attribute [local go_sem] max2_int min2_int max_two min_two max_three min_three max_four min_four
set_option linter.unusedVariables false
set_option linter.unusedSimpArgs false

open Go.Proofs.YtddjnicmpgbcgaaY
theorem putN_small {n : Int} (h0 : 0 ≤ n) (h : n < 8589934592) : (putN n 12).2 = true := by
  unfold putN
  rw [if_neg (by omega), if_pos]
  show n.toNat / 8 ^ 11 = 0
  rw [Nat.div_eq_of_lt]
  have e : (8 : Nat) ^ 11 = 8589934592 := by decide
  omega
theorem longHd_ok {kind : Int} {s : ByteArray} (hk : kind = 75 ∨ kind = 76) (hs : s.size ≤ 10000) : hdOk (longHd kind s) = true := by
  have hp : (putN ((s.size : Int) + 1) 12).2 = true := putN_small (by omega) (by omega)
  rcases hk with rfl | rfl
  · have h1 : hdA (longHd 75 s) = true := (show hdA (longHd 75 ⟨#[]⟩) = true by decide +kernel)
    have h2 : (hdWords (longHd 75 s)).all (fun x => wordOk x.2.2.2 x.2.1) = true := (show (hdWords (longHd 75 ⟨#[]⟩)).all (fun x => wordOk x.2.2.2 x.2.1) = true by decide +kernel)
    have h3 : (hdNumbers (longHd 75 s)).all (fun x => (putN x.2.2.2 x.2.1).2) = ((putN 0 8).2 && ((putN 0 8).2 && ((putN 0 8).2 && ((putN ((s.size : Int) + 1) 12).2 && ((putN 0 12).2 && true))))) := rfl
    unfold hdOk
    rw [h1, h2, h3, hp]
    decide +kernel
  · have h1 : hdA (longHd 76 s) = true := (show hdA (longHd 76 ⟨#[]⟩) = true by decide +kernel)
    have h2 : (hdWords (longHd 76 s)).all (fun x => wordOk x.2.2.2 x.2.1) = true := (show (hdWords (longHd 76 ⟨#[]⟩)).all (fun x => wordOk x.2.2.2 x.2.1) = true by decide +kernel)
    have h3 : (hdNumbers (longHd 76 s)).all (fun x => (putN x.2.2.2 x.2.1).2) = ((putN 0 8).2 && ((putN 0 8).2 && ((putN 0 8).2 && ((putN ((s.size : Int) + 1) 12).2 && ((putN 0 12).2 && true))))) := rfl
    unfold hdOk
    rw [h1, h2, h3, hp]
    decide +kernel
theorem longHead {kind : Int} {s : ByteArray} (hk : kind = 75 ∨ kind = 76) (hs : s.size ≤ 10000) : (headPut (longHd kind s)).1 = hdBlk (longHd kind s) := by
  unfold headPut
  rw [if_pos (longHd_ok hk hs)]
theorem longHead_eq {a b : Int} {s t : ByteArray} (ha : a = 75 ∨ a = 76) (hb : b = 75 ∨ b = 76) (hs : s.size ≤ 10000) (ht : t.size ≤ 10000) : hdBlk (longHd a s) = hdBlk (longHd b t) ↔ a = b ∧ s.size = t.size := by
  constructor
  · intro h
    have o1 := longHd_ok (s := s) ha hs
    have o2 := longHd_ok (s := t) hb ht
    refine ⟨?_, ?_⟩
    · have h1 := read_type o1
      rw [h, read_type o2] at h1
      exact h1.symm
    · have h1 := read_size o1
      rw [h, read_size o2] at h1
      have := putN_inj (n := ((longHd b t).f6)) (m := (longHd a s).f6) ((hdOk_fit o2).2.1.2.2.2.1) ((hdOk_fit o1).2.1.2.2.2.1) h1
      have e : (t.size : Int) + 1 = (s.size : Int) + 1 := this
      omega
  · rintro ⟨rfl, e⟩
    unfold longHd
    rw [e]
theorem byteOk_app {a b : List Int} (ha : byteOk a) (hb : byteOk b) : byteOk (a ++ b) := fun c hc => by
  rcases List.mem_append.1 hc with h | h
  · exact ha c h
  · exact hb c h
theorem byteOk_zeros (n : Nat) : byteOk (List.replicate n 0) := fun c hc => by
  rw [(List.mem_replicate.1 hc).2]; decide
theorem byteOk_cutB : ∀ (n : Nat) (l : List Int), l.length = n → byteOk l → ∀ x ∈ cutB l, byteOk x := by
  intro n
  induction n using Nat.strongRecOn with
  | _ n ih =>
  intro l hl hb x hx
  by_cases h : l.length = 0
  · rw [cutB_nil h] at hx; cases hx
  · rw [cutB_cons h] at hx
    rcases List.mem_cons.1 hx with rfl | hx
    · exact byteOk_app (fun c hc => hb c (List.mem_of_mem_take hc)) (byteOk_zeros _)
    · exact ih (l.length - 512) (by omega) (l.drop 512) (by rw [List.length_drop]) (fun c hc => hb c (List.mem_of_mem_drop hc)) x hx
theorem byteOk_cutL (s : ByteArray) : ∀ x ∈ cutL s, byteOk x := by
  rw [cutL_eq]
  exact byteOk_cutB _ _ rfl (byteOk_bytesOf s)
theorem strOfNums_inj {a b : List Int} (ha : byteOk a) (hb : byteOk b) : strOfNums a = strOfNums b ↔ a = b := by
  constructor
  · intro h
    rw [← bytes_of_nums a ha, ← bytes_of_nums b hb, h]
  · rintro rfl; rfl
theorem str_beq {a b : List Int} (ha : byteOk a) (hb : byteOk b) : ((strOfNums a).toList == (strOfNums b).toList) = decide (a = b) := by
  rw [Bool.eq_iff_iff, beq_iff_eq, decide_eq_true_eq, ← strOfNums_inj ha hb]
  constructor
  · intro h
    rw [Lib.toList_data, Lib.toList_data] at h
    exact ByteArray.ext (Array.ext' h)
  · intro h; rw [h]
theorem byteOk_words : ∀ (l : List (Int × Int × Nat × ByteArray)) (b : List Int), byteOk b → byteOk (l.foldl layWord b)
  | [], _, h => h
  | x :: l, b, h => byteOk_words l _ (byteOk_splice h (byteOk_bytesOf _))
theorem byteOk_numbers : ∀ (l : List (Int × Int × Nat × Int)) (b : List Int), byteOk b → byteOk (l.foldl layNum b)
  | [], _, h => h
  | x :: l, b, h => byteOk_numbers l _ (byteOk_splice h (byteOk_putN _ _))
theorem byteOk_hdBlk {h : Hd} (h8 : 0 ≤ h.f8 ∧ h.f8 ≤ 255) : byteOk (hdBlk h) := by
  have b2 : byteOk (blk2 h) := byteOk_numbers _ _ (byteOk_words _ _ (byteOk_zeros _))
  have b3 : byteOk (blk3 h) := byteOk_splice b2 (fun c hc => by rw [List.mem_singleton] at hc; omega)
  have b4 : byteOk (blk4 h) := by
    unfold blk4
    rw [layMagic]
    refine byteOk_splice (byteOk_splice (byteOk_splice b3 ?_) ?_) ?_ <;> (intro c hc; simp only [List.mem_cons, List.not_mem_nil, or_false] at hc; omega)
  exact byteOk_splice b4 (signL_byte _)

end Go.Proofs.Ytddjnicmpgbcgaa.X
