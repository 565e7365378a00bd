/- The statement LongNeeds, plainly; the example of layer 5. -/
import Derived.Test.YtddjnicmpgbcgaaXK
import Derived.Test.YtddjnicmpgbcgaaXreelkeeperlaw05LongNeeds
import Derived.Test.YtddjnicmpgbcgaaXreelkeeperlaw05awake
import Derived.Test.YtddjnicmpgbcgaaXGlong
import Derived.Test.YtddjnicmpgbcgaaXGpath
import Derived.Test.YtddjnicmpgbcgaaYPath
import Derived.Test.YtddjnicmpgbcgaaYBytes
import Derived.Test.YtddjnicmpgbcgaaP02l
import Derived.Lib.IndexAny
namespace Go.Proofs.Ytddjnicmpgbcgaa.X
open Go.RowKit Go.Proofs.YtddjnicmpgbcgaaW.PrintWords Go.Proofs.YtddjnicmpgbcgaaW.PrintLast Go.Proofs.YtddjnicmpgbcgaaW.PrintMore
attribute [local go_sem] max2_int min2_int max_two min_two max_three min_three max_four min_four
set_option linter.unusedVariables false
set_option linter.unusedSimpArgs false

open Go.Proofs.YtddjnicmpgbcgaaY
/-- The first slash from a place on. -/
def slashFrom (l : List UInt8) (i : Nat) : Option Nat :=
  if 0 ≤ Lib.indexByte (l.drop i) 47 then some (i + (Lib.indexByte (l.drop i) 47).toNat) else none

theorem slashFrom_here {l : List UInt8} {i : Nat} (h : l[i]? = some 47) : slashFrom l i = some i := by
  obtain ⟨hlt, he⟩ := List.getElem?_eq_some_iff.1 h
  unfold slashFrom
  rw [List.drop_eq_getElem_cons hlt, he]
  simp [Lib.indexByte]
theorem slashFrom_next {l : List UInt8} {i : Nat} (hi : i < l.length) (h : l[i]? ≠ some 47) : slashFrom l i = slashFrom l (i + 1) := by
  have he : l[i] ≠ 47 := fun e => h (by rw [List.getElem?_eq_getElem hi, e])
  unfold slashFrom
  rw [List.drop_eq_getElem_cons hi]
  have hg := Lib.indexByte_ge (l.drop (i + 1)) 47
  generalize l.drop (i + 1) = t at *
  generalize l[i] = c at *
  have e : Lib.indexByte (c :: t) 47 = if 0 ≤ Lib.indexByte t 47 then Lib.indexByte t 47 + 1 else -1 := by
    simp only [Lib.indexByte]
    rw [if_neg (by simpa using he)]
    by_cases h0 : Lib.indexByte t 47 = -1
    · rw [if_pos (by simp [h0]), if_neg (by omega)]
    · rw [if_neg (by simpa using h0), if_pos (by omega)]
  rw [e]
  by_cases h0 : 0 ≤ Lib.indexByte t 47
  · rw [if_pos h0, if_pos (by omega), if_pos h0]
    congr 1
    omega
  · rw [if_neg h0, if_neg (by omega), if_neg h0]
theorem slashFrom_end {l : List UInt8} {i : Nat} (hi : l.length ≤ i) : slashFrom l i = none := by
  unfold slashFrom
  rw [List.drop_of_length_le hi]
  simp [Lib.indexByte]
theorem slashFrom_some {l : List UInt8} {i m : Nat} (h : slashFrom l i = some m) : i ≤ m ∧ l[m]? = some 47 := by
  unfold slashFrom at h
  by_cases h0 : 0 ≤ Lib.indexByte (l.drop i) 47
  · rw [if_pos h0] at h
    obtain ⟨n, hn⟩ := Int.eq_ofNat_of_zero_le h0
    rw [hn] at h
    simp only [Int.toNat_natCast, Option.some.injEq] at h
    subst h
    refine ⟨by omega, ?_⟩
    have := (Lib.indexByte_some hn).1
    rwa [List.getElem?_drop] at this
  · rw [if_neg h0] at h; cases h

def noSplit : ByteArray × ByteArray × Bool := (⟨#[]⟩, ⟨#[]⟩, false)
def splitAt (s : ByteArray) : Option Nat → ByteArray × ByteArray × Bool
  | none => noSplit
  | some m => if m > 155 then noSplit else (s.extract 0 m, s.extract (m + 1) s.size, true)
/-- What Split tells. -/
def splitR (s : ByteArray) : ByteArray × ByteArray × Bool :=
  if mayL s.data.toList then (if s.size ≤ 100 then (⟨#[]⟩, s, true) else splitAt s (slashFrom s.data.toList (s.size - 101))) else noSplit

theorem split_f (s : ByteArray) (hs : s.size ≤ 9223372036854775807) : path_Split.f s = some (splitR s) := by
  unfold path_Split.f splitR
  rw [may_f hs]
  simp only [Option.bind_some]
  cases hm : mayL s.data.toList
  · rfl
  simp only [if_true]
  by_cases h1 : s.size ≤ 100
  · rw [if_pos (by omega), if_pos h1]
  have h3 := mayL_size hm
  rw [Array.length_toList] at h3
  have h4 : s.size ≤ 300 := h3
  rw [if_neg (by omega), if_neg h1]
  have e1 : wrap64 (wrap64 ((s.size : Int) - 100) - 1) = ((s.size - 101 : Nat) : Int) := by rw [wrap_id (x := (s.size : Int) - 100) (by omega) (by omega), wrap_id (by omega) (by omega)]; omega
  rw [e1, if_pos (by omega), if_pos (by omega)]
  unfold strings_IndexByte.f
  simp only [Option.bind_some, Int.toNat_natCast]
  rw [Lib.extract_to_end]
  rw [show (Int.toNat 47).toUInt8 = 47 from rfl]
  by_cases h0 : Lib.indexByte (s.data.toList.drop (s.size - 101)) 47 < 0
  · rw [if_pos h0]
    unfold slashFrom
    rw [if_neg (by omega)]
    rfl
  rw [if_neg h0]
  obtain ⟨n, hn⟩ := Int.eq_ofNat_of_zero_le (Int.not_lt.1 h0)
  have hlt := indexByte_lt hn
  rw [List.length_drop, Array.length_toList] at hlt
  have hlt2 : n < s.size - (s.size - 101) := hlt
  have e2 : slashFrom s.data.toList (s.size - 101) = some (s.size - 101 + n) := by
    unfold slashFrom
    rw [hn, if_pos (by omega)]
    simp
  rw [e2, hn]
  unfold splitAt
  have e3 : wrap64 (((s.size - 101 : Nat) : Int) + (n : Int)) = ((s.size - 101 + n : Nat) : Int) := by rw [wrap_id (by omega) (by omega)]; omega
  have e4 : wrap64 (((s.size - 101 + n : Nat) : Int) + 1) = ((s.size - 101 + n + 1 : Nat) : Int) := by rw [wrap_id (by omega) (by omega)]; omega
  rw [e3, e4]
  by_cases h5 : s.size - 101 + n > 155
  · rw [if_pos (by omega)]
    simp only [h5, if_true]
    rfl
  · rw [if_neg (by omega), if_pos (by omega), if_pos (by omega), if_pos (by omega), if_pos (by omega)]
    simp only [h5, if_false, Int.toNat_natCast]
theorem awake5_ev : Ev (fun k => reelkeeperlaw05_awake.f k) true := Ev.of (k := 200) reelkeeperlaw05_awake.mono (by decide +kernel)
theorem needs_f (a0 a1 : ByteArray) (a2 a3 a4 a5 a6 : Int) (a7 : ByteArray) (h : a0.size ≤ 9223372036854775807) : long_Needs.f a0 a1 a2 a3 a4 a5 a6 a7 = some (!(splitR a0).2.2 && mayL a0.data.toList, decide ((a1.size : Int) > 100)) := by
  unfold long_Needs.f
  rw [split_f a0 h, may_f h]
  simp only [Option.bind_some]
  cases (splitR a0).2.2 <;> rfl
theorem split_short {s : ByteArray} (h : mayL s.data.toList = true) (h1 : s.size ≤ 100) : (splitR s).2.2 = true := by unfold splitR; rw [if_pos h, if_pos h1]
theorem split_long {s : ByteArray} (h1 : 256 < s.size) : (splitR s).2.2 = false := by
  unfold splitR
  by_cases h : mayL s.data.toList = true
  · rw [if_pos h, if_neg (by omega)]
    unfold splitAt
    cases hs : slashFrom s.data.toList (s.size - 101) with
    | none => rfl
    | some m =>
      have := (slashFrom_some hs).1
      simp only
      rw [if_pos (by omega)]
      rfl
  · rw [if_neg h]; rfl
theorem needs_up (a0 a1 : ByteArray) : Ev (fun k => reelkeeperlaw05_LongNeeds.j0 k a0 a1 true true) true := by
  refine Ev.step (fun _ => rfl) ?_
  simp only [reelkeeperlaw05_LongNeeds.j0, if_true]
  exact Ev.now _
theorem LongNeeds : reelkeeperlaw05_LongNeeds.Pure := by
  intro a0 a1 _ _
  refine Ev.rounds ?_
  unfold reelkeeperlaw05_LongNeeds.f
  refine Ev.bind awake5_ev ?_
  refine Ev.if_pos rfl ?_
  by_cases h0 : (a0.size : Int) > 400
  · exact Ev.if_pos h0 (needs_up a0 a1)
  refine Ev.if_neg h0 ?_
  by_cases h1 : (a1.size : Int) > 400
  · rw [decide_eq_true h1]; exact needs_up a0 a1
  rw [decide_eq_false h1]
  refine Ev.step (fun _ => rfl) ?_
  simp only [reelkeeperlaw05_LongNeeds.j0]
  refine Ev.if_neg (by decide) ?_
  refine Ev.of_eq fun _ => ?_
  rw [needs_f a0 a1 0 0 0 0 0 _ (by omega), split_f a0 (by omega), may_f (by omega)]
  simp only [Option.bind_some]
  cases hm : mayL a0.data.toList with
  | false => simp
  | true =>
    by_cases c1 : a0.size ≤ 100
    · rw [split_short hm c1]; simp; omega
    · by_cases c2 : 256 < a0.size
      · rw [split_long c2]; simp; omega
      · cases (splitR a0).2.2 <;> simp <;> omega

end Go.Proofs.Ytddjnicmpgbcgaa.X
