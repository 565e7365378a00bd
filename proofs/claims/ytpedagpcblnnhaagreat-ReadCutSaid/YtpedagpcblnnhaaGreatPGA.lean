import Derived.Test.YtpedagpcblnnhaaGreatXK
import Derived.Test.YtpedagpcblnnhaaGreatXGpath
import Derived.Test.YtpedagpcblnnhaaGreatYAll
import Derived.Test.YtpedagpcblnnhaaGreatXGblock
import Derived.Test.YtpedagpcblnnhaaGreatXGhead
import Derived.Test.YtpedagpcblnnhaaGreatXGlong
import Derived.Test.YtpedagpcblnnhaaGreatXreelkeeperlaw05Few
import Derived.Lib.IndexAny
namespace Go.Proofs.YtpedagpcblnnhaaGreat.X
open Go.RowKit Go.Proofs.YtpedagpcblnnhaaGreatW.PrintWords Go.Proofs.YtpedagpcblnnhaaGreatW.PrintLast Go.Proofs.YtpedagpcblnnhaaGreatW.PrintMore
attribute [local go_sem] max2_int min2_int max_two min_two
set_option linter.unusedVariables false
set_option linter.unusedSimpArgs false
section
open Go.Proofs.YtpedagpcblnnhaaGreatY
theorem wrap_id {x : Int} (h0 : -9223372036854775808 ≤ x) (h1 : x ≤ 9223372036854775807) : wrap64 x = x := by unfold wrap64; omega
theorem mayA_eq (s : ByteArray) : mayA s = mayL s.data.toList := by
  unfold mayA mayL splitA
  have e : decide (Lib.indexByte s.data.toList 0 < 0) = !s.data.toList.contains 0 := by
    rw [Lib.contains_iff_indexByte]
    by_cases h : Lib.indexByte s.data.toList 0 < 0
    · simp [h]
    · simp [h]; omega
  rw [e, List.all_map, Array.length_toList]
  rfl
theorem may_f {s : ByteArray} (h : s.size ≤ 9223372036854775807) : path_May.f s = some (mayL s.data.toList) := by
  unfold path_May.f; rw [if_pos h, mayA_eq]
theorem mayL_size {l : List UInt8} (h : mayL l = true) : l.length ≤ 300 := by
  unfold mayL at h
  simp only [Bool.and_eq_true, decide_eq_true_eq] at h
  exact h.2.1
theorem mayL_append (a b : List UInt8) : mayL (a ++ 47 :: b) = (mayL a && mayL b && decide (a.length + b.length + 1 ≤ 300)) := by
  unfold mayL
  rw [splitL_append, List.all_append]
  have e : (a ++ 47 :: b).contains (0 : UInt8) = (a.contains 0 || b.contains 0) := by
    simp [List.contains_eq_any_beq, List.any_append]
  rw [e]
  simp only [List.length_append, List.length_cons]
  by_cases h1 : a.length + (b.length + 1) ≤ 300
  · have h2 : a.length ≤ 300 := by omega
    have h3 : b.length ≤ 300 := by omega
    have h4 : a.length + b.length + 1 ≤ 300 := by omega
    simp only [h1, h2, h3, h4, decide_true, Bool.true_and, Bool.and_true]
    cases (splitL a).all fun x => !oddL x <;> cases (splitL b).all fun x => !oddL x <;> cases a.contains 0 <;> cases b.contains 0 <;> rfl
  · have h4 : ¬ a.length + b.length + 1 ≤ 300 := by omega
    simp [h1, h4]
theorem mayL_ne {l : List UInt8} (h : mayL l = true) : l ≠ [] := by
  rintro rfl
  revert h; decide
theorem app_data (a b : ByteArray) : (a ++ b).data.toList = a.data.toList ++ b.data.toList := by simp
theorem bt_some {s : ByteArray} {n : Nat} (h : n < s.size) : ∃ c, s.data.toList[n]? = some c ∧ bt s (n : Int) = (c.toNat : Int) := by
  refine ⟨s[n], Lib.data_getElem? s n h, ?_⟩
  rw [← bt_at s (n : Int) (by simpa using h)]
  rfl
theorem bt_is {s : ByteArray} {n : Nat} (h : n < s.size) (c : UInt8) : bt s (n : Int) = (c.toNat : Int) ↔ s.data.toList[n]? = some c := by
  obtain ⟨d, h1, h2⟩ := bt_some h
  rw [h2, h1]
  constructor
  · intro e; rw [UInt8.toNat_inj.1 (by omega : d.toNat = c.toNat)]
  · intro e; cases e; rfl
theorem list_at {l : List UInt8} {n : Nat} {c : UInt8} (h : l[n]? = some c) : l = l.take n ++ c :: l.drop (n + 1) := by
  obtain ⟨hlt, he⟩ := List.getElem?_eq_some_iff.1 h
  conv => lhs; rw [← List.take_append_drop n l, List.drop_eq_getElem_cons hlt, he]
theorem Ev.of_eq {α : Type} {g : Nat → Option α} {r : α} (h : ∀ k, g k = some r) : Ev g r := ⟨0, fun k _ => h k⟩
theorem Ev.if_pos {α : Type} {c : Prop} [Decidable c] {a b : Nat → Option α} {r : α} (hc : c) (h : Ev a r) : Ev (fun k => if c then a k else b k) r := by simpa only [_root_.if_pos hc] using h
theorem Ev.if_neg {α : Type} {c : Prop} [Decidable c] {a b : Nat → Option α} {r : α} (hc : ¬ c) (h : Ev b r) : Ev (fun k => if c then a k else b k) r := by simpa only [_root_.if_neg hc] using h
end
section
open Go.Proofs.YtpedagpcblnnhaaGreatY
def slashFrom (l : List UInt8) (i : Nat) : Option Nat :=
  if 0 ≤ Lib.indexByte (l.drop i) 47 then some (i + (Lib.indexByte (l.drop i) 47).toNat) else none
theorem slashFrom_some {l : List UInt8} {i m : Nat} (h : slashFrom l i = some m) : i ≤ m ∧ l[m]? = some 47 := by
  unfold slashFrom at h
  by_cases h0 : 0 ≤ Lib.indexByte (l.drop i) 47
  · rw [if_pos h0] at h
    obtain ⟨n, hn⟩ := Int.eq_ofNat_of_zero_le h0
    rw [hn] at h
    simp only [Int.toNat_natCast, Option.some.injEq] at h
    subst h
    refine ⟨by omega, ?_⟩
    have := (Lib.indexByte_some hn).1
    rwa [List.getElem?_drop] at this
  · rw [if_neg h0] at h; cases h
def noSplit : ByteArray × ByteArray × Bool := (⟨#[]⟩, ⟨#[]⟩, false)
def splitAt (s : ByteArray) : Option Nat → ByteArray × ByteArray × Bool
  | none => noSplit
  | some m => if m > 155 then noSplit else (s.extract 0 m, s.extract (m + 1) s.size, true)
def splitR (s : ByteArray) : ByteArray × ByteArray × Bool :=
  if mayL s.data.toList then (if s.size ≤ 100 then (⟨#[]⟩, s, true) else splitAt s (slashFrom s.data.toList (s.size - 101))) else noSplit
theorem split_f (s : ByteArray) (hs : s.size ≤ 9223372036854775807) : path_Split.f s = some (splitR s) := by
  unfold path_Split.f splitR
  rw [may_f hs]
  simp only [Option.bind_some]
  cases hm : mayL s.data.toList
  · rfl
  simp only [if_true]
  by_cases h1 : s.size ≤ 100
  · rw [if_pos (by omega), if_pos h1]
  have h3 := mayL_size hm
  rw [Array.length_toList] at h3
  have h4 : s.size ≤ 300 := h3
  rw [if_neg (by omega), if_neg h1]
  have e1 : wrap64 (wrap64 ((s.size : Int) - 100) - 1) = ((s.size - 101 : Nat) : Int) := by rw [wrap_id (x := (s.size : Int) - 100) (by omega) (by omega), wrap_id (by omega) (by omega)]; omega
  rw [e1, if_pos (by omega), if_pos (by omega)]
  unfold strings_IndexByte.f
  simp only [Option.bind_some, Int.toNat_natCast]
  rw [Lib.extract_to_end]
  rw [show (Int.toNat 47).toUInt8 = 47 from rfl]
  by_cases h0 : Lib.indexByte (s.data.toList.drop (s.size - 101)) 47 < 0
  · rw [if_pos h0]
    unfold slashFrom
    rw [if_neg (by omega)]
    rfl
  rw [if_neg h0]
  obtain ⟨n, hn⟩ := Int.eq_ofNat_of_zero_le (Int.not_lt.1 h0)
  have hlt := indexByte_lt hn
  rw [List.length_drop, Array.length_toList] at hlt
  have hlt2 : n < s.size - (s.size - 101) := hlt
  have e2 : slashFrom s.data.toList (s.size - 101) = some (s.size - 101 + n) := by
    unfold slashFrom
    rw [hn, if_pos (by omega)]
    simp
  rw [e2, hn]
  unfold splitAt
  have e3 : wrap64 (((s.size - 101 : Nat) : Int) + (n : Int)) = ((s.size - 101 + n : Nat) : Int) := by rw [wrap_id (by omega) (by omega)]; omega
  have e4 : wrap64 (((s.size - 101 + n : Nat) : Int) + 1) = ((s.size - 101 + n + 1 : Nat) : Int) := by rw [wrap_id (by omega) (by omega)]; omega
  rw [e3, e4]
  by_cases h5 : s.size - 101 + n > 155
  · rw [if_pos (by omega)]
    simp only [h5, if_true]
    rfl
  · rw [if_neg (by omega), if_pos (by omega), if_pos (by omega), if_pos (by omega), if_pos (by omega)]
    simp only [h5, if_false, Int.toNat_natCast]
end
section
open Go.Proofs.YtpedagpcblnnhaaGreatY
def padL (x : List Int) : List Int := x ++ List.replicate (512 - x.length) 0
def cutB (l : List Int) : List (List Int) := if l.length = 0 then [] else padL (l.take 512) :: cutB (l.drop 512)
  termination_by l.length
  decreasing_by simp only [List.length_drop]; omega
theorem cutB_nil {l : List Int} (h : l.length = 0) : cutB l = [] := by rw [cutB, if_pos h]
theorem cutB_cons {l : List Int} (h : l.length ≠ 0) : cutB l = padL (l.take 512) :: cutB (l.drop 512) := by rw [cutB, if_neg h]
theorem bytesOf_extract (s : ByteArray) (a b : Nat) : bytesOf (s.extract a b) = ((bytesOf s).drop a).take (b - a) := by
  unfold bytesOf
  rw [Lib.extract_data, List.map_take, List.map_drop]
theorem cutL_cutB : ∀ (n : Nat) (s : ByteArray), s.size = n → cutL s = cutB (bytesOf s) := by
  intro n
  induction n using Nat.strongRecOn with
  | _ n ih =>
  intro s hs
  unfold cutL
  by_cases h : s.size = 0
  · rw [piecesA_nil h, cutB_nil (by rw [bytesOf_length]; exact h)]; rfl
  · have hz : (s.extract (min s.size 512) s.size).size = s.size - min s.size 512 := by rw [ByteArray.size_extract]; omega
    have h2 := ih _ (by omega) (s.extract (min s.size 512) s.size) hz
    unfold cutL at h2
    rw [piecesA_cons h, List.map_cons, h2, cutB_cons (l := bytesOf s) (by rw [bytesOf_length]; exact h), bytesOf_extract]
    have hl := bytesOf_length s
    refine congr (congrArg List.cons ?_) (congrArg cutB ?_)
    · unfold padB padL
      rw [bytesOf_extract, List.drop_zero, ByteArray.size_extract, List.length_take, hl]
      congr 1
      · by_cases c : s.size ≤ 512
        · rw [show min s.size 512 - 0 = s.size by omega, List.take_of_length_le (by omega), List.take_of_length_le (by omega)]
        · rw [show min s.size 512 - 0 = 512 by omega]
      · congr 1; omega
    · by_cases c : s.size ≤ 512
      · rw [List.drop_of_length_le (by omega), List.take_nil, List.drop_of_length_le (by omega)]
      · rw [show min s.size 512 = 512 by omega, List.take_of_length_le (by rw [List.length_drop]; omega)]
theorem cutL_eq (s : ByteArray) : cutL s = cutB (bytesOf s) := cutL_cutB _ s rfl
def manyB (n : Nat) : Nat := (n + 511) / 512
theorem padL_length {x : List Int} (h : x.length ≤ 512) : (padL x).length = 512 := by unfold padL; rw [List.length_append, List.length_replicate]; omega
theorem cutB_length : ∀ (n : Nat) (l : List Int), l.length = n → (cutB l).length = manyB n ∧ ∀ x ∈ cutB l, x.length = 512 := by
  intro n
  induction n using Nat.strongRecOn with
  | _ n ih =>
  intro l hl
  by_cases h : l.length = 0
  · rw [cutB_nil h]
    unfold manyB
    exact ⟨by rw [List.length_nil]; omega, fun x hx => by cases hx⟩
  · rw [cutB_cons h]
    obtain ⟨h1, h2⟩ := ih (l.length - 512) (by omega) (l.drop 512) (by rw [List.length_drop])
    unfold manyB at h1 ⊢
    refine ⟨by rw [List.length_cons, h1]; omega, fun x hx => ?_⟩
    rcases List.mem_cons.1 hx with rfl | hx
    · exact padL_length (by rw [List.length_take]; omega)
    · exact h2 x hx
theorem bytesOf_inj {a b : ByteArray} (h : bytesOf a = bytesOf b) : a = b := by
  apply ByteArray.ext
  apply Array.ext'
  unfold bytesOf at h
  exact List.map_inj_right (fun x y e => UInt8.toNat_inj.1 (Int.ofNat.inj e)) |>.1 h
theorem bytesOf_append (a b : ByteArray) : bytesOf (a ++ b) = bytesOf a ++ bytesOf b := by
  unfold bytesOf
  rw [show (a ++ b).data.toList = a.data.toList ++ b.data.toList by simp, List.map_append]
end
section
open Go.Proofs.YtpedagpcblnnhaaGreatY
theorem splice_at {l x : List Int} {p n : Nat} (h : p + x.length ≤ n) (hl : l.length = n) (i : Nat) :
    (splice l p x).getD i 0 = if p ≤ i ∧ i < p + x.length then x.getD (i - p) 0 else l.getD i 0 := by
  unfold splice
  simp only [List.getD_eq_getElem?_getD]
  by_cases h1 : p ≤ i ∧ i < p + x.length
  · rw [if_pos h1, List.getElem?_append_right (by rw [List.length_take]; omega), List.length_take, List.getElem?_append_left (by omega), show i - min p l.length = i - p by omega]
  · rw [if_neg h1]
    by_cases h2 : i < p
    · rw [List.getElem?_append_left (by rw [List.length_take]; omega), List.getElem?_take_of_lt h2]
    · rw [List.getElem?_append_right (by rw [List.length_take]; omega), List.length_take, List.getElem?_append_right (by omega), List.getElem?_drop]
      congr 2
      omega
theorem getD_over {l : List Int} {i : Nat} (h : l.length ≤ i) : l.getD i 0 = 0 := by rw [List.getD_eq_getElem?_getD, List.getElem?_eq_none h]; rfl
theorem ext_at {a b : List Int} (hl : a.length = b.length) (h : ∀ i, i < a.length → a.getD i 0 = b.getD i 0) : a = b := by
  apply List.ext_getElem hl
  intro i h1 h2
  have := h i h1
  simpa [List.getD_eq_getElem?_getD, List.getElem?_eq_getElem h1, List.getElem?_eq_getElem h2] using this
def sub (b : List Int) (p n : Nat) : List Int := (b.drop p).take n
theorem sub_length {b : List Int} {p n : Nat} (h : p + n ≤ b.length) : (sub b p n).length = n := by unfold sub; rw [List.length_take, List.length_drop]; omega
theorem sub_at {b : List Int} {p n i : Nat} (h : i < n) : (sub b p n).getD i 0 = b.getD (p + i) 0 := by
  unfold sub
  simp only [List.getD_eq_getElem?_getD]
  rw [List.getElem?_take_of_lt h, List.getElem?_drop]
theorem hdOk_fit {h : Hd} (ho : hdOk h = true) : (h.f0.size ≤ 100 ∧ h.f2.size ≤ 100 ∧ (h.f8 ≠ 77 → h.f1.size ≤ 155)) ∧ ((putN h.f3 8).2 = true ∧ (putN h.f4 8).2 = true ∧ (putN h.f5 8).2 = true ∧ (putN h.f6 12).2 = true ∧ (putN h.f7 12).2 = true) ∧ (h.f8 = 77 → (putN h.f9 12).2 = true ∧ (putN h.f10 12).2 = true) := by
  obtain ⟨hw, hn⟩ := hdOk_parts ho
  unfold hdWords at hw
  unfold hdNumbers at hn
  by_cases hM : h.f8 = 77
  · rw [if_pos hM] at hw hn
    simp only [List.cons_append, List.nil_append, List.all_cons, List.all_nil, Bool.and_eq_true, wordOk, decide_eq_true_eq] at hw hn
    obtain ⟨h0, h2, _⟩ := hw
    obtain ⟨h3, h4, h5, h6, h7, h9, h10, _⟩ := hn
    exact ⟨⟨by omega, by omega, fun hne => absurd hM hne⟩, ⟨h3, h4, h5, h6, h7⟩, fun _ => ⟨h9, h10⟩⟩
  · rw [if_neg hM] at hw hn
    simp only [List.cons_append, List.nil_append, List.all_cons, List.all_nil, Bool.and_eq_true, wordOk, decide_eq_true_eq] at hw hn
    obtain ⟨h0, h2, h1, _⟩ := hw
    obtain ⟨h3, h4, h5, h6, h7, _⟩ := hn
    exact ⟨⟨by omega, by omega, fun _ => by omega⟩, ⟨h3, h4, h5, h6, h7⟩, fun he => absurd he hM⟩
theorem putN_len8 {n : Int} (h : (putN n 8).2 = true) : (putN n 8).1.length = 8 := (putN_length h).1
theorem putN_len12 {n : Int} (h : (putN n 12).2 = true) : (putN n 12).1.length = 12 := (putN_length h).1
def magic : List Int := [117, 115, 116, 97, 114, 0, 48, 48]
def cellH (h : Hd) (i : Nat) : Int :=
  if i < 100 then (bytesOf h.f0).getD i 0
  else if i < 108 then (putN h.f3 8).1.getD (i - 100) 0
  else if i < 116 then (putN h.f4 8).1.getD (i - 108) 0
  else if i < 124 then (putN h.f5 8).1.getD (i - 116) 0
  else if i < 136 then (putN h.f6 12).1.getD (i - 124) 0
  else if i < 148 then (putN h.f7 12).1.getD (i - 136) 0
  else if i < 156 then 0
  else if i < 157 then h.f8
  else if i < 257 then (bytesOf h.f2).getD (i - 157) 0
  else if i < 265 then magic.getD (i - 257) 0
  else if i < 345 then 0
  else if h.f8 = 77 then (if i < 369 then 0 else if i < 381 then (putN h.f9 12).1.getD (i - 369) 0 else if i < 483 then 0 else if i < 495 then (putN h.f10 12).1.getD (i - 483) 0 else 0)
  else (bytesOf h.f1).getD (i - 345) 0
theorem chain_nil (L : List Int) (h : L = List.replicate 512 0) (i : Nat) : L.length = 512 ∧ L.getD i 0 = 0 := by
  subst h
  refine ⟨List.length_replicate, ?_⟩
  rw [List.getD_eq_getElem?_getD, List.getElem?_replicate]
  split <;> rfl
theorem chain_step {l x : List Int} {p i : Nat} {v : Int} (hl : l.length = 512 ∧ l.getD i 0 = v) (h : p + x.length ≤ 512) : (splice l p x).length = 512 ∧ (splice l p x).getD i 0 = if p ≤ i ∧ i < p + x.length then x.getD (i - p) 0 else v :=
  ⟨by rw [length_splice _ _ _ (by omega)]; exact hl.1, by rw [splice_at h hl.1, hl.2]⟩
theorem byte_getD_short {s : ByteArray} {j : Nat} (h : s.size ≤ j) : (bytesOf s).getD j 0 = 0 := getD_over (by rw [bytesOf_length]; exact h)
theorem layMagic (L : List Int) : layAll L 257 [[117, 115, 116, 97, 114], [0], [48, 48]] = splice (splice (splice L 257 [117, 115, 116, 97, 114]) 262 [0]) 263 [48, 48] := rfl
set_option maxHeartbeats 1600000 in
set_option maxRecDepth 100000 in
theorem blk4_more {h : Hd} (ho : hdOk h = true) (hM : h.f8 = 77) (i : Nat) : (blk4 h).length = 512 ∧ (blk4 h).getD i 0 = cellH h i := by
  obtain ⟨⟨z0, z2, z1⟩, ⟨n3, n4, n5, n6, n7⟩, n9⟩ := hdOk_fit ho
  have l0 : (bytesOf h.f0).length = h.f0.size := bytesOf_length _
  have l1 : (bytesOf h.f1).length = h.f1.size := bytesOf_length _
  have l2 : (bytesOf h.f2).length = h.f2.size := bytesOf_length _
  have e3 := putN_len8 n3
  have e4 := putN_len8 n4
  have e5 := putN_len8 n5
  have e6 := putN_len12 n6
  have e7 := putN_len12 n7
  have e9 := putN_len12 (n9 hM).1
  have e10 := putN_len12 (n9 hM).2
  have c0 := chain_nil _ rfl i
  have c1 := chain_step (p := 0) (x := bytesOf h.f0) c0 (by first | omega | simp)
  have c2 := chain_step (p := 157) (x := bytesOf h.f2) c1 (by first | omega | simp)
  have c3 := chain_step (p := 100) (x := (putN h.f3 8).1) c2 (by first | omega | simp)
  have c4 := chain_step (p := 108) (x := (putN h.f4 8).1) c3 (by first | omega | simp)
  have c5 := chain_step (p := 116) (x := (putN h.f5 8).1) c4 (by first | omega | simp)
  have c6 := chain_step (p := 124) (x := (putN h.f6 12).1) c5 (by first | omega | simp)
  have c7 := chain_step (p := 136) (x := (putN h.f7 12).1) c6 (by first | omega | simp)
  have c8 := chain_step (p := 369) (x := (putN h.f9 12).1) c7 (by first | omega | simp)
  have c9 := chain_step (p := 483) (x := (putN h.f10 12).1) c8 (by first | omega | simp)
  have c10 := chain_step (p := 156) (x := [h.f8]) c9 (by first | omega | simp)
  have c11 := chain_step (p := 257) (x := [117, 115, 116, 97, 114]) c10 (by first | omega | simp)
  have c12 := chain_step (p := 262) (x := [0]) c11 (by first | omega | simp)
  have c13 := chain_step (p := 263) (x := [48, 48]) c12 (by first | omega | simp)
  have hb : blk4 h = splice (splice (splice (splice (splice (splice (splice (splice (splice (splice (splice (splice (splice (List.replicate 512 0) 0 (bytesOf h.f0)) 157 (bytesOf h.f2)) 100 ((putN h.f3 8).1)) 108 ((putN h.f4 8).1)) 116 ((putN h.f5 8).1)) 124 ((putN h.f6 12).1)) 136 ((putN h.f7 12).1)) 369 ((putN h.f9 12).1)) 483 ((putN h.f10 12).1)) 156 [h.f8]) 257 [117, 115, 116, 97, 114]) 262 [0]) 263 [48, 48] := by
    unfold blk4 blk3 blk2 blk1 hdWords hdNumbers
    rw [if_pos hM, if_pos hM, layMagic]
    rfl
  rw [hb]
  refine ⟨c13.1, c13.2.trans ?_⟩
  unfold cellH
  rw [if_pos hM]
  simp only [l0, l1, l2, e3, e4, e5, e6, e7, e9, e10, List.length_cons, List.length_nil, Nat.zero_add, Nat.sub_zero]
  clear c0 c1 c2 c3 c4 c5 c6 c7 c8 c9 c10 c11 c12 c13 hb ho n3 n4 n5 n6 n7 n9 e3 e4 e5 e6 e7 e9 e10 l0 l1 l2
  by_cases g0 : i < 100
  · by_cases gw : i < 0 + h.f0.size
    · repeat (first | rw [if_pos (by omega)] | rw [if_neg (by omega)])
    · repeat (first | rw [if_pos (by omega)] | rw [if_neg (by omega)])
      exact (byte_getD_short (by omega)).symm
  by_cases g1 : i < 108
  · repeat (first | rw [if_pos (by omega)] | rw [if_neg (by omega)])
  by_cases g2 : i < 116
  · repeat (first | rw [if_pos (by omega)] | rw [if_neg (by omega)])
  by_cases g3 : i < 124
  · repeat (first | rw [if_pos (by omega)] | rw [if_neg (by omega)])
  by_cases g4 : i < 136
  · repeat (first | rw [if_pos (by omega)] | rw [if_neg (by omega)])
  by_cases g5 : i < 148
  · repeat (first | rw [if_pos (by omega)] | rw [if_neg (by omega)])
  by_cases g6 : i < 156
  · repeat (first | rw [if_pos (by omega)] | rw [if_neg (by omega)])
  by_cases g7 : i < 157
  · obtain rfl : i = 156 := by omega
    repeat (first | rw [if_pos (by omega)] | rw [if_neg (by omega)])
    rfl
  by_cases g8 : i < 257
  · by_cases gw : i < 157 + h.f2.size
    · repeat (first | rw [if_pos (by omega)] | rw [if_neg (by omega)])
    · repeat (first | rw [if_pos (by omega)] | rw [if_neg (by omega)])
      exact (byte_getD_short (by omega)).symm
  by_cases g9 : i < 262
  · rcases (show i = 257 ∨ i = 258 ∨ i = 259 ∨ i = 260 ∨ i = 261 by omega) with rfl | rfl | rfl | rfl | rfl <;> (repeat (first | rw [if_pos (by omega)] | rw [if_neg (by omega)]); rfl)
  by_cases g10 : i < 263
  · obtain rfl : i = 262 := by omega
    repeat (first | rw [if_pos (by omega)] | rw [if_neg (by omega)])
    rfl
  by_cases g11 : i < 265
  · rcases (show i = 263 ∨ i = 264 by omega) with rfl | rfl <;> (repeat (first | rw [if_pos (by omega)] | rw [if_neg (by omega)]); rfl)
  by_cases g12 : i < 345
  · repeat (first | rw [if_pos (by omega)] | rw [if_neg (by omega)])
  by_cases g13 : i < 369
  · repeat (first | rw [if_pos (by omega)] | rw [if_neg (by omega)])
  by_cases g14 : i < 381
  · repeat (first | rw [if_pos (by omega)] | rw [if_neg (by omega)])
  by_cases g15 : i < 483
  · repeat (first | rw [if_pos (by omega)] | rw [if_neg (by omega)])
  by_cases g16 : i < 495
  · repeat (first | rw [if_pos (by omega)] | rw [if_neg (by omega)])
  repeat (first | rw [if_pos (by omega)] | rw [if_neg (by omega)])
set_option maxHeartbeats 1600000 in
set_option maxRecDepth 100000 in
theorem blk4_plain {h : Hd} (ho : hdOk h = true) (hM : h.f8 ≠ 77) (i : Nat) : (blk4 h).length = 512 ∧ (blk4 h).getD i 0 = cellH h i := by
  obtain ⟨⟨z0, z2, z1⟩, ⟨n3, n4, n5, n6, n7⟩, n9⟩ := hdOk_fit ho
  have l0 : (bytesOf h.f0).length = h.f0.size := bytesOf_length _
  have l1 : (bytesOf h.f1).length = h.f1.size := bytesOf_length _
  have l2 : (bytesOf h.f2).length = h.f2.size := bytesOf_length _
  have e3 := putN_len8 n3
  have e4 := putN_len8 n4
  have e5 := putN_len8 n5
  have e6 := putN_len12 n6
  have e7 := putN_len12 n7
  have z1 := z1 hM
  have c0 := chain_nil _ rfl i
  have c1 := chain_step (p := 0) (x := bytesOf h.f0) c0 (by first | omega | simp)
  have c2 := chain_step (p := 157) (x := bytesOf h.f2) c1 (by first | omega | simp)
  have c3 := chain_step (p := 345) (x := bytesOf h.f1) c2 (by first | omega | simp)
  have c4 := chain_step (p := 100) (x := (putN h.f3 8).1) c3 (by first | omega | simp)
  have c5 := chain_step (p := 108) (x := (putN h.f4 8).1) c4 (by first | omega | simp)
  have c6 := chain_step (p := 116) (x := (putN h.f5 8).1) c5 (by first | omega | simp)
  have c7 := chain_step (p := 124) (x := (putN h.f6 12).1) c6 (by first | omega | simp)
  have c8 := chain_step (p := 136) (x := (putN h.f7 12).1) c7 (by first | omega | simp)
  have c9 := chain_step (p := 156) (x := [h.f8]) c8 (by first | omega | simp)
  have c10 := chain_step (p := 257) (x := [117, 115, 116, 97, 114]) c9 (by first | omega | simp)
  have c11 := chain_step (p := 262) (x := [0]) c10 (by first | omega | simp)
  have c12 := chain_step (p := 263) (x := [48, 48]) c11 (by first | omega | simp)
  have hb : blk4 h = splice (splice (splice (splice (splice (splice (splice (splice (splice (splice (splice (splice (List.replicate 512 0) 0 (bytesOf h.f0)) 157 (bytesOf h.f2)) 345 (bytesOf h.f1)) 100 ((putN h.f3 8).1)) 108 ((putN h.f4 8).1)) 116 ((putN h.f5 8).1)) 124 ((putN h.f6 12).1)) 136 ((putN h.f7 12).1)) 156 [h.f8]) 257 [117, 115, 116, 97, 114]) 262 [0]) 263 [48, 48] := by
    unfold blk4 blk3 blk2 blk1 hdWords hdNumbers
    rw [if_neg hM, if_neg hM, layMagic]
    rfl
  rw [hb]
  refine ⟨c12.1, c12.2.trans ?_⟩
  unfold cellH
  rw [if_neg hM]
  simp only [l0, l1, l2, e3, e4, e5, e6, e7, List.length_cons, List.length_nil, Nat.zero_add, Nat.sub_zero]
  clear c0 c1 c2 c3 c4 c5 c6 c7 c8 c9 c10 c11 c12 hb ho n3 n4 n5 n6 n7 n9 e3 e4 e5 e6 e7 l0 l1 l2
  by_cases g0 : i < 100
  · by_cases gw : i < 0 + h.f0.size
    · repeat (first | rw [if_pos (by omega)] | rw [if_neg (by omega)])
    · repeat (first | rw [if_pos (by omega)] | rw [if_neg (by omega)])
      exact (byte_getD_short (by omega)).symm
  by_cases g1 : i < 108
  · repeat (first | rw [if_pos (by omega)] | rw [if_neg (by omega)])
  by_cases g2 : i < 116
  · repeat (first | rw [if_pos (by omega)] | rw [if_neg (by omega)])
  by_cases g3 : i < 124
  · repeat (first | rw [if_pos (by omega)] | rw [if_neg (by omega)])
  by_cases g4 : i < 136
  · repeat (first | rw [if_pos (by omega)] | rw [if_neg (by omega)])
  by_cases g5 : i < 148
  · repeat (first | rw [if_pos (by omega)] | rw [if_neg (by omega)])
  by_cases g6 : i < 156
  · repeat (first | rw [if_pos (by omega)] | rw [if_neg (by omega)])
  by_cases g7 : i < 157
  · obtain rfl : i = 156 := by omega
    repeat (first | rw [if_pos (by omega)] | rw [if_neg (by omega)])
    rfl
  by_cases g8 : i < 257
  · by_cases gw : i < 157 + h.f2.size
    · repeat (first | rw [if_pos (by omega)] | rw [if_neg (by omega)])
    · repeat (first | rw [if_pos (by omega)] | rw [if_neg (by omega)])
      exact (byte_getD_short (by omega)).symm
  by_cases g9 : i < 262
  · rcases (show i = 257 ∨ i = 258 ∨ i = 259 ∨ i = 260 ∨ i = 261 by omega) with rfl | rfl | rfl | rfl | rfl <;> (repeat (first | rw [if_pos (by omega)] | rw [if_neg (by omega)]); rfl)
  by_cases g10 : i < 263
  · obtain rfl : i = 262 := by omega
    repeat (first | rw [if_pos (by omega)] | rw [if_neg (by omega)])
    rfl
  by_cases g11 : i < 265
  · rcases (show i = 263 ∨ i = 264 by omega) with rfl | rfl <;> (repeat (first | rw [if_pos (by omega)] | rw [if_neg (by omega)]); rfl)
  by_cases g12 : i < 345
  · repeat (first | rw [if_pos (by omega)] | rw [if_neg (by omega)])
  by_cases gw : i < 345 + h.f1.size
  · repeat (first | rw [if_pos (by omega)] | rw [if_neg (by omega)])
  · repeat (first | rw [if_pos (by omega)] | rw [if_neg (by omega)])
    exact (byte_getD_short (by omega)).symm
theorem blk4_cell {h : Hd} (ho : hdOk h = true) (i : Nat) : (blk4 h).length = 512 ∧ (blk4 h).getD i 0 = cellH h i := by
  by_cases hM : h.f8 = 77
  · exact blk4_more ho hM i
  · exact blk4_plain ho hM i
end
section
open Go.Proofs.YtpedagpcblnnhaaGreatY
theorem sumL_congr : ∀ (a b : List Int) (i : Nat), a.length = b.length → (∀ j, j < a.length → ¬ (148 ≤ i + j ∧ i + j < 156) → a.getD j 0 = b.getD j 0) → sumL a i = sumL b i
  | [], [], _, _, _ => rfl
  | x :: a, y :: b, i, hl, h => by
    rw [sumL, sumL]
    have h0 := h 0 (by simp)
    have ht := sumL_congr a b (i + 1) (by simpa using hl) (fun j hj hn => by
      have := h (j + 1) (by simp; omega) (by omega)
      simpa using this)
    rw [ht]
    by_cases c : 148 ≤ i ∧ i < 156
    · rw [if_pos c, if_pos c]
    · rw [if_neg c, if_neg c]
      have := h0 (by simpa using c)
      simp at this
      rw [this]
theorem signL_length (n : Int) : (signL n).length = 8 := by unfold signL; rw [List.length_append, octL_length]; rfl
theorem hdBlk_length {h : Hd} (ho : hdOk h = true) : (hdBlk h).length = 512 := by
  unfold hdBlk
  have h4 := (blk4_cell ho 0).1
  rw [length_splice _ _ _ (by rw [signL_length, h4]; decide)]
  exact h4
theorem hdBlk_at {h : Hd} (ho : hdOk h = true) {i : Nat} (hi : ¬ (148 ≤ i ∧ i < 156)) : (hdBlk h).getD i 0 = cellH h i := by
  obtain ⟨h4, hc⟩ := blk4_cell ho i
  unfold hdBlk
  rw [splice_at (n := 512) (by rw [signL_length]; decide) h4 i, signL_length, if_neg (by omega)]
  exact hc
theorem hdBlk_sumL {h : Hd} (ho : hdOk h = true) : sumL (hdBlk h) 0 = sumL (blk4 h) 0 := by
  have h4 := (blk4_cell ho 0).1
  refine sumL_congr _ _ 0 (by rw [hdBlk_length ho, h4]) (fun j hj hn => ?_)
  rw [hdBlk_at ho (by omega)]
  exact ((blk4_cell ho j).2).symm
theorem hdBlk_sign {h : Hd} (ho : hdOk h = true) : sub (hdBlk h) 148 8 = signL (sumL (hdBlk h) 0) := by
  obtain ⟨h4, hc⟩ := blk4_cell ho 0
  have hl := hdBlk_length ho
  rw [hdBlk_sumL ho]
  refine ext_at (by rw [sub_length (by omega), signL_length]) (fun i hi => ?_)
  rw [sub_length (by omega)] at hi
  rw [sub_at hi]
  unfold hdBlk
  rw [splice_at (n := 512) (by rw [signL_length]; decide) h4, signL_length, if_pos (by omega), Nat.add_sub_cancel_left]
theorem hdBlk_read {h : Hd} (ho : hdOk h = true) {p n : Nat} {x : List Int} (hx : x.length = n) (hp : p + n ≤ 512) (hs : p + n ≤ 148 ∨ 156 ≤ p) (hc : ∀ j, j < n → cellH h (p + j) = x.getD j 0) : sub (hdBlk h) p n = x := by
  have hl := hdBlk_length ho
  refine ext_at (by rw [sub_length (by omega), hx]) (fun i hi => ?_)
  rw [sub_length (by omega)] at hi
  rw [sub_at hi, hdBlk_at ho (by omega)]
  exact hc i hi
def padTo (n : Nat) (s : ByteArray) : List Int := bytesOf s ++ List.replicate (n - s.size) 0
theorem padTo_length {n : Nat} {s : ByteArray} (h : s.size ≤ n) : (padTo n s).length = n := by unfold padTo; rw [List.length_append, bytesOf_length, List.length_replicate]; omega
theorem padTo_at (n : Nat) (s : ByteArray) (i : Nat) : (padTo n s).getD i 0 = (bytesOf s).getD i 0 := by
  unfold padTo
  simp only [List.getD_eq_getElem?_getD]
  by_cases h : i < s.size
  · rw [List.getElem?_append_left (by rw [bytesOf_length]; exact h)]
  · rw [List.getElem?_append_right (by rw [bytesOf_length]; omega), List.getElem?_replicate, List.getElem?_eq_none (l := bytesOf s) (by rw [bytesOf_length]; omega)]
    split <;> rfl
theorem read_mode {h : Hd} (ho : hdOk h = true) : sub (hdBlk h) 100 8 = (putN h.f3 8).1 := by
  have hf := (hdOk_fit ho).2.1
  refine hdBlk_read ho (putN_len8 (by first | exact hf.1 | exact hf.2.1 | exact hf.2.2.1 | exact hf.2.2.2.1 | exact hf.2.2.2.2)) (by decide) (by decide) (fun j hj => ?_)
  unfold cellH
  repeat (first | rw [if_pos (by omega)] | rw [if_neg (by omega)])
  rw [Nat.add_sub_cancel_left]
theorem read_uid {h : Hd} (ho : hdOk h = true) : sub (hdBlk h) 108 8 = (putN h.f4 8).1 := by
  have hf := (hdOk_fit ho).2.1
  refine hdBlk_read ho (putN_len8 (by first | exact hf.1 | exact hf.2.1 | exact hf.2.2.1 | exact hf.2.2.2.1 | exact hf.2.2.2.2)) (by decide) (by decide) (fun j hj => ?_)
  unfold cellH
  repeat (first | rw [if_pos (by omega)] | rw [if_neg (by omega)])
  rw [Nat.add_sub_cancel_left]
theorem read_gid {h : Hd} (ho : hdOk h = true) : sub (hdBlk h) 116 8 = (putN h.f5 8).1 := by
  have hf := (hdOk_fit ho).2.1
  refine hdBlk_read ho (putN_len8 (by first | exact hf.1 | exact hf.2.1 | exact hf.2.2.1 | exact hf.2.2.2.1 | exact hf.2.2.2.2)) (by decide) (by decide) (fun j hj => ?_)
  unfold cellH
  repeat (first | rw [if_pos (by omega)] | rw [if_neg (by omega)])
  rw [Nat.add_sub_cancel_left]
theorem read_size {h : Hd} (ho : hdOk h = true) : sub (hdBlk h) 124 12 = (putN h.f6 12).1 := by
  have hf := (hdOk_fit ho).2.1
  refine hdBlk_read ho (putN_len12 (by first | exact hf.1 | exact hf.2.1 | exact hf.2.2.1 | exact hf.2.2.2.1 | exact hf.2.2.2.2)) (by decide) (by decide) (fun j hj => ?_)
  unfold cellH
  repeat (first | rw [if_pos (by omega)] | rw [if_neg (by omega)])
  rw [Nat.add_sub_cancel_left]
theorem read_time {h : Hd} (ho : hdOk h = true) : sub (hdBlk h) 136 12 = (putN h.f7 12).1 := by
  have hf := (hdOk_fit ho).2.1
  refine hdBlk_read ho (putN_len12 (by first | exact hf.1 | exact hf.2.1 | exact hf.2.2.1 | exact hf.2.2.2.1 | exact hf.2.2.2.2)) (by decide) (by decide) (fun j hj => ?_)
  unfold cellH
  repeat (first | rw [if_pos (by omega)] | rw [if_neg (by omega)])
  rw [Nat.add_sub_cancel_left]
theorem read_off {h : Hd} (ho : hdOk h = true) (hM : h.f8 = 77) : sub (hdBlk h) 369 12 = (putN h.f9 12).1 := by
  have hf := (hdOk_fit ho).2.2 hM
  refine hdBlk_read ho (putN_len12 hf.1) (by decide) (by decide) (fun j hj => ?_)
  unfold cellH
  rw [if_pos hM]
  repeat (first | rw [if_pos (by omega)] | rw [if_neg (by omega)])
  rw [Nat.add_sub_cancel_left]
theorem read_real {h : Hd} (ho : hdOk h = true) (hM : h.f8 = 77) : sub (hdBlk h) 483 12 = (putN h.f10 12).1 := by
  have hf := (hdOk_fit ho).2.2 hM
  refine hdBlk_read ho (putN_len12 hf.2) (by decide) (by decide) (fun j hj => ?_)
  unfold cellH
  rw [if_pos hM]
  repeat (first | rw [if_pos (by omega)] | rw [if_neg (by omega)])
  rw [Nat.add_sub_cancel_left]
theorem read_name {h : Hd} (ho : hdOk h = true) : sub (hdBlk h) 0 100 = padTo 100 h.f0 := by
  have hf := (hdOk_fit ho).1.1
  refine hdBlk_read ho (padTo_length hf) (by decide) (by decide) (fun j hj => ?_)
  rw [padTo_at]
  unfold cellH
  repeat (first | rw [if_pos (by omega)] | rw [if_neg (by omega)])
  rw [Nat.zero_add]
theorem read_link {h : Hd} (ho : hdOk h = true) : sub (hdBlk h) 157 100 = padTo 100 h.f2 := by
  have hf := (hdOk_fit ho).1.2.1
  refine hdBlk_read ho (padTo_length hf) (by decide) (by decide) (fun j hj => ?_)
  rw [padTo_at]
  unfold cellH
  repeat (first | rw [if_pos (by omega)] | rw [if_neg (by omega)])
  rw [Nat.add_sub_cancel_left]
theorem read_prefix {h : Hd} (ho : hdOk h = true) (hM : h.f8 ≠ 77) : sub (hdBlk h) 345 155 = padTo 155 h.f1 := by
  have hf := (hdOk_fit ho).1.2.2 hM
  refine hdBlk_read ho (padTo_length hf) (by decide) (by decide) (fun j hj => ?_)
  rw [padTo_at]
  unfold cellH
  rw [if_neg hM]
  repeat (first | rw [if_pos (by omega)] | rw [if_neg (by omega)])
  rw [Nat.add_sub_cancel_left]
theorem read_type {h : Hd} (ho : hdOk h = true) : (hdBlk h).getD 156 0 = h.f8 := by
  rw [hdBlk_at ho (by decide)]
  unfold cellH
  repeat (first | rw [if_pos (by omega)] | rw [if_neg (by omega)])
theorem putN_forms {n w : Int} (h : (putN n w).2 = true) : 0 ≤ n ∧ 2 ≤ w ∧ w ≤ 20 ∧
    (((putN n w).1 = octL n.toNat (w.toNat - 1) ++ [0] ∧ n.toNat / 8 ^ (w.toNat - 1) = 0) ∨ ((putN n w).1 = 128 :: bytL n.toNat (w.toNat - 1) ∧ n.toNat / 256 ^ (w.toNat - 1) = 0)) := by
  unfold putN at h ⊢
  by_cases c : n < 0 ∨ w < 2 ∨ 20 < w
  · rw [if_pos c] at h; cases h
  · rw [if_neg c] at h ⊢
    refine ⟨by omega, by omega, by omega, ?_⟩
    by_cases c1 : n.toNat / 8 ^ (w.toNat - 1) = 0
    · rw [if_pos c1]; exact .inl ⟨rfl, c1⟩
    · rw [if_neg c1] at h ⊢
      by_cases c2 : n.toNat / 256 ^ (w.toNat - 1) = 0
      · rw [if_pos c2]; exact .inr ⟨rfl, c2⟩
      · rw [if_neg c2] at h; cases h
theorem noNought_iff (s : ByteArray) : noNought s = true ↔ (0 : UInt8) ∉ s.data.toList := by
  unfold noNought
  have h := Lib.contains_iff_indexByte s.data.toList 0
  rw [decide_eq_true_eq]
  by_cases c : (0 : UInt8) ∈ s.data.toList
  · simp [c] at h
    simp only [c, not_true, iff_false]
    omega
  · simp [c] at h
    simp only [c, not_false_iff, iff_true]
    omega
end
section
open Go.Proofs.YtpedagpcblnnhaaGreatY
theorem needs_f (a0 a1 : ByteArray) (a2 a3 a4 a5 a6 : Int) (a7 : ByteArray) (h : a0.size ≤ 9223372036854775807) : long_Needs.f a0 a1 a2 a3 a4 a5 a6 a7 = some (!(splitR a0).2.2 && mayL a0.data.toList, decide ((a1.size : Int) > 100)) := by
  unfold long_Needs.f
  rw [split_f a0 h, may_f h]
  simp only [Option.bind_some]
  cases (splitR a0).2.2 <;> rfl
end
section
open Go.Proofs.YtpedagpcblnnhaaGreatY
def textB (s : ByteArray) : Bool := decide (1 ≤ s.size) && (decide (s.size ≤ 300) && !s.data.toList.contains 0)
theorem long_text (s : ByteArray) : long_Text.f s = some (textB s) := by
  unfold long_Text.f textB strings_IndexByte.f
  have hs : s.data.toList.length = s.size := Array.length_toList
  by_cases h0 : s.toList = ([] : List UInt8)
  · rw [if_pos h0]
    rw [Lib.toList_data] at h0
    rw [h0] at hs
    rw [decide_eq_false (by simp at hs; omega)]
    rfl
  · rw [if_neg h0]
    rw [Lib.toList_data] at h0
    have h1 : 1 ≤ s.size := by
      rcases Nat.eq_zero_or_pos s.size with e | e
      · rw [e] at hs; exact absurd (List.eq_nil_of_length_eq_zero hs) h0
      · exact e
    rw [decide_eq_true h1, Bool.true_and]
    by_cases h2 : (s.size : Int) ≤ 300
    · rw [if_pos h2, decide_eq_true (show s.size ≤ 300 by omega), Bool.true_and]
      simp only [Option.bind_some]
      congr 1
      rw [Lib.contains_iff_indexByte]
      have e0 : (0 : Int).toNat.toUInt8 = (0 : UInt8) := rfl
      rw [e0]
      by_cases h : Lib.indexByte s.data.toList 0 < 0
      · simp [h]
      · simp [h]; omega
    · rw [if_neg h2, decide_eq_false (show ¬ s.size ≤ 300 by omega), Bool.false_and]
end
section
open Go.Proofs.YtpedagpcblnnhaaGreatY
abbrev Nd := S41
def okN (n : Nd) : Bool := decide (n.f0.size ≤ 400) && (decide (n.f1.size ≤ 400) && decide (n.f7.size ≤ 5000))
theorem okN_iff {n : Nd} : okN n = true ↔ n.f0.size ≤ 400 ∧ n.f1.size ≤ 400 ∧ n.f7.size ≤ 5000 := by simp [okN]
theorem few5 (n : Nd) : reelkeeperlaw05_Few.f n.f0 n.f1 n.f2 n.f3 n.f4 n.f5 n.f6 n.f7 = some (okN n) := by
  unfold reelkeeperlaw05_Few.f okN
  by_cases h0 : n.f0.size ≤ 400
  · rw [if_pos (by omega)]
    by_cases h1 : n.f1.size ≤ 400
    · rw [if_pos (by omega)]
      simp only [h0, h1, decide_true, Bool.true_and]
      congr 1
      by_cases h7 : n.f7.size ≤ 5000
      · simp [h7]; omega
      · simp [h7]; omega
    · rw [if_neg (by omega)]; simp [h1]
  · rw [if_neg (by omega)]; simp [h0]
end
section
open Go.Proofs.YtpedagpcblnnhaaGreatY
theorem splitR_may {s : ByteArray} (h : (splitR s).2.2 = true) : mayL s.data.toList = true := by
  unfold splitR at h
  cases hm : mayL s.data.toList
  · rw [hm] at h; cases h
  · rfl
theorem splitR_yes {s : ByteArray} (h : (splitR s).2.2 = true) :
    (s.size ≤ 100 ∧ splitR s = (⟨#[]⟩, s, true)) ∨ (100 < s.size ∧ ∃ x y, splitR s = (x, y, true) ∧ s.data.toList = x.data.toList ++ 47 :: y.data.toList ∧ x.size ≤ 155 ∧ y.size ≤ 100) := by
  have hm := splitR_may h
  have hz : s.data.toList.length = s.size := Array.length_toList
  unfold splitR at h ⊢
  rw [hm] at h ⊢
  simp only [if_true] at h ⊢
  by_cases h1 : s.size ≤ 100
  · rw [_root_.if_pos h1] at h ⊢
    exact .inl ⟨h1, rfl⟩
  · rw [_root_.if_neg h1] at h ⊢
    refine .inr ⟨by omega, ?_⟩
    cases hf : slashFrom s.data.toList (s.size - 101) with
    | none => rw [hf] at h; cases h
    | some m =>
      rw [hf] at h
      obtain ⟨hge, hq⟩ := slashFrom_some hf
      have hlt := (List.getElem?_eq_some_iff.1 hq).1
      unfold splitAt at h ⊢
      by_cases h2 : m > 155
      · simp only [h2, if_true] at h; cases h
      · simp only [h2, if_false]
        refine ⟨_, _, rfl, ?_, ?_, ?_⟩
        · have e1 : (s.extract 0 m).data.toList = s.data.toList.take m := by rw [Lib.extract_data]; simp
          rw [e1, Lib.extract_to_end]
          exact list_at hq
        · rw [ByteArray.size_extract]; omega
        · rw [ByteArray.size_extract]; omega
theorem splitR_no {s : ByteArray} (h : (splitR s).2.2 = false) : splitR s = noSplit ∧ (mayL s.data.toList = false ∨ 100 < s.size) := by
  unfold splitR at h ⊢
  cases hm : mayL s.data.toList
  · exact ⟨rfl, .inl rfl⟩
  · rw [hm] at h
    simp only [if_true] at h ⊢
    by_cases h1 : s.size ≤ 100
    · rw [_root_.if_pos h1] at h; cases h
    · rw [_root_.if_neg h1] at h ⊢
      refine ⟨?_, .inr (by omega)⟩
      cases hf : slashFrom s.data.toList (s.size - 101) with
      | none => rfl
      | some m =>
        rw [hf] at h
        unfold splitAt at h ⊢
        by_cases h2 : m > 155
        · simp only [h2, if_true]
        · simp only [h2, if_false] at h; cases h
theorem shortB_size (s : ByteArray) : (shortB s).size ≤ 100 := by
  unfold shortB
  by_cases h : 100 < s.size
  · rw [if_pos h, ByteArray.size_extract]; omega
  · rw [if_neg h]; omega
end
section
open Go.Proofs.YtpedagpcblnnhaaGreatY
end
section
open Go.Proofs.YtpedagpcblnnhaaGreatY
theorem longHd_in {kind : Int} {s : ByteArray} (h : 0 ≤ kind ∧ kind ≤ 255) (hs : s.size ≤ 10000) : hdIn (longHd kind s) := ⟨h, by show (0 : Int) ≤ _; decide, by show (0 : Int) ≤ _; decide, by show (0 : Int) ≤ _; decide, by show (s.size : Int) + 1 ≤ _; omega, by show (0 : Int) ≤ _; decide, by show (0 : Int) ≤ _; decide, by show (0 : Int) ≤ _; decide⟩
def longB (kind : Int) (s : ByteArray) : List (List Int) × Bool := if longOk kind (textB s) = true then (longL kind s, true) else ([], false)
theorem longPut_f {kind : Int} {s : ByteArray} (h : 0 ≤ kind ∧ kind ≤ 255) (hs : s.size ≤ 10000) : long_Put.f kind s = some (longB kind s) := by
  unfold long_Put.f longB
  rw [if_pos ⟨h, hs⟩, long_text]
  rfl
theorem longL_length (kind : Int) (s : ByteArray) : (longL kind s).length = 1 + manyB (s.size + 1) := by
  unfold longL
  rw [List.length_cons, cutL_eq, (cutB_length _ _ rfl).1, bytesOf_length, ByteArray.size_append, Nat.add_comm]
  rfl
theorem longB_length {kind : Int} {s : ByteArray} (hs : s.size ≤ 10000) : (longB kind s).1.length ≤ 1000 := by
  unfold longB
  by_cases h : longOk kind (textB s) = true
  · rw [if_pos h, longL_length]
    unfold manyB
    omega
  · rw [if_neg h]; decide
def needsB (a0 a1 : ByteArray) : Bool × Bool := (!(splitR a0).2.2 && mayL a0.data.toList, decide ((a1.size : Int) > 100))
def namesB (a0 a1 : ByteArray) : ByteArray × ByteArray × ByteArray := (if (needsB a0 a1).1 = true then shortB a0 else (splitR a0).2.1, (splitR a0).1, shortB a1)
theorem names_f (a0 a1 : ByteArray) (a2 a3 a4 a5 a6 : Int) (a7 : ByteArray) (h : a0.size ≤ 10000) : long_Names.f a0 a1 a2 a3 a4 a5 a6 a7 = some (namesB a0 a1) := by
  unfold long_Names.f namesB
  rw [split_f a0 (by omega), needs_f a0 a1 a2 a3 a4 a5 a6 a7 (by omega)]
  rfl
theorem needs_split {a0 a1 : ByteArray} (h : (needsB a0 a1).1 = true) : splitR a0 = noSplit := by
  unfold needsB at h
  simp only [Bool.and_eq_true, Bool.not_eq_true'] at h
  exact (splitR_no h.1).1
def aheadB (a0 a1 : ByteArray) : List (List Int) := (if (needsB a0 a1).2 = true then (longB 75 a1).1 else []) ++ (if (needsB a0 a1).1 = true then (longB 76 a0).1 else [])
theorem aheadB_length {a0 a1 : ByteArray} (h0 : a0.size ≤ 10000) (h1 : a1.size ≤ 10000) : (if (needsB a0 a1).2 = true then (longB 75 a1).1 else []).length + (if (needsB a0 a1).1 = true then (longB 76 a0).1 else []).length ≤ 100000 := by
  have g1 := longB_length (kind := 75) h1
  have g0 := longB_length (kind := 76) h0
  have e : ([] : List (List Int)).length = 0 := rfl
  split <;> split <;> (try rw [e]) <;> omega
theorem aheadF_f {is : Bool} {kind : Int} {s : ByteArray} (h : 0 ≤ kind ∧ kind ≤ 255) (hs : s.size ≤ 10000) : aheadF is kind s = some (if is = true then (longB kind s).1 else []) := by
  unfold aheadF
  cases is with
  | true => rw [if_pos rfl, if_pos rfl, longPut_f h hs]; rfl
  | false => rfl
theorem ahead_f (a0 a1 : ByteArray) (a2 a3 a4 a5 a6 : Int) (a7 : ByteArray) (h0 : a0.size ≤ 10000) (h1 : a1.size ≤ 10000) : long_Ahead.f a0 a1 a2 a3 a4 a5 a6 a7 = some (aheadB a0 a1) := by
  unfold long_Ahead.f
  rw [needs_f a0 a1 a2 a3 a4 a5 a6 a7 (by omega)]
  simp only [Option.bind_some]
  rw [aheadF_f (by decide) h1, aheadF_f (by decide) h0]
  simp only [Option.bind_some]
  exact if_pos (aheadB_length h0 h1)
end
section
open Go.Proofs.YtpedagpcblnnhaaGreatY
theorem putN_small {n : Int} (h0 : 0 ≤ n) (h : n < 8589934592) : (putN n 12).2 = true := by
  unfold putN
  rw [if_neg (by omega), if_pos]
  show n.toNat / 8 ^ 11 = 0
  rw [Nat.div_eq_of_lt]
  have e : (8 : Nat) ^ 11 = 8589934592 := by decide
  omega
theorem longHd_ok {kind : Int} {s : ByteArray} (hk : kind = 75 ∨ kind = 76) (hs : s.size ≤ 10000) : hdOk (longHd kind s) = true := by
  have hp : (putN ((s.size : Int) + 1) 12).2 = true := putN_small (by omega) (by omega)
  rcases hk with rfl | rfl
  · have h1 : hdA (longHd 75 s) = true := (show hdA (longHd 75 ⟨#[]⟩) = true by decide +kernel)
    have h2 : (hdWords (longHd 75 s)).all (fun x => wordOk x.2.2.2 x.2.1) = true := (show (hdWords (longHd 75 ⟨#[]⟩)).all (fun x => wordOk x.2.2.2 x.2.1) = true by decide +kernel)
    have h3 : (hdNumbers (longHd 75 s)).all (fun x => (putN x.2.2.2 x.2.1).2) = ((putN 0 8).2 && ((putN 0 8).2 && ((putN 0 8).2 && ((putN ((s.size : Int) + 1) 12).2 && ((putN 0 12).2 && true))))) := rfl
    unfold hdOk
    rw [h1, h2, h3, hp]
    decide +kernel
  · have h1 : hdA (longHd 76 s) = true := (show hdA (longHd 76 ⟨#[]⟩) = true by decide +kernel)
    have h2 : (hdWords (longHd 76 s)).all (fun x => wordOk x.2.2.2 x.2.1) = true := (show (hdWords (longHd 76 ⟨#[]⟩)).all (fun x => wordOk x.2.2.2 x.2.1) = true by decide +kernel)
    have h3 : (hdNumbers (longHd 76 s)).all (fun x => (putN x.2.2.2 x.2.1).2) = ((putN 0 8).2 && ((putN 0 8).2 && ((putN 0 8).2 && ((putN ((s.size : Int) + 1) 12).2 && ((putN 0 12).2 && true))))) := rfl
    unfold hdOk
    rw [h1, h2, h3, hp]
    decide +kernel
theorem longHead {kind : Int} {s : ByteArray} (hk : kind = 75 ∨ kind = 76) (hs : s.size ≤ 10000) : (headPut (longHd kind s)).1 = hdBlk (longHd kind s) := by
  unfold headPut
  rw [if_pos (longHd_ok hk hs)]
theorem byteOk_app {a b : List Int} (ha : byteOk a) (hb : byteOk b) : byteOk (a ++ b) := fun c hc => by
  rcases List.mem_append.1 hc with h | h
  · exact ha c h
  · exact hb c h
theorem byteOk_zeros (n : Nat) : byteOk (List.replicate n 0) := fun c hc => by
  rw [(List.mem_replicate.1 hc).2]; decide
theorem byteOk_cutB : ∀ (n : Nat) (l : List Int), l.length = n → byteOk l → ∀ x ∈ cutB l, byteOk x := by
  intro n
  induction n using Nat.strongRecOn with
  | _ n ih =>
  intro l hl hb x hx
  by_cases h : l.length = 0
  · rw [cutB_nil h] at hx; cases hx
  · rw [cutB_cons h] at hx
    rcases List.mem_cons.1 hx with rfl | hx
    · exact byteOk_app (fun c hc => hb c (List.mem_of_mem_take hc)) (byteOk_zeros _)
    · exact ih (l.length - 512) (by omega) (l.drop 512) (by rw [List.length_drop]) (fun c hc => hb c (List.mem_of_mem_drop hc)) x hx
theorem byteOk_cutL (s : ByteArray) : ∀ x ∈ cutL s, byteOk x := by
  rw [cutL_eq]
  exact byteOk_cutB _ _ rfl (byteOk_bytesOf s)
theorem strOfNums_inj {a b : List Int} (ha : byteOk a) (hb : byteOk b) : strOfNums a = strOfNums b ↔ a = b := by
  constructor
  · intro h
    rw [← bytes_of_nums a ha, ← bytes_of_nums b hb, h]
  · rintro rfl; rfl
theorem str_beq {a b : List Int} (ha : byteOk a) (hb : byteOk b) : ((strOfNums a).toList == (strOfNums b).toList) = decide (a = b) := by
  rw [Bool.eq_iff_iff, beq_iff_eq, decide_eq_true_eq, ← strOfNums_inj ha hb]
  constructor
  · intro h
    rw [Lib.toList_data, Lib.toList_data] at h
    exact ByteArray.ext (Array.ext' h)
  · intro h; rw [h]
theorem byteOk_words : ∀ (l : List (Int × Int × Nat × ByteArray)) (b : List Int), byteOk b → byteOk (l.foldl layWord b)
  | [], _, h => h
  | x :: l, b, h => byteOk_words l _ (byteOk_splice h (byteOk_bytesOf _))
theorem byteOk_numbers : ∀ (l : List (Int × Int × Nat × Int)) (b : List Int), byteOk b → byteOk (l.foldl layNum b)
  | [], _, h => h
  | x :: l, b, h => byteOk_numbers l _ (byteOk_splice h (byteOk_putN _ _))
theorem byteOk_hdBlk {h : Hd} (h8 : 0 ≤ h.f8 ∧ h.f8 ≤ 255) : byteOk (hdBlk h) := by
  have b2 : byteOk (blk2 h) := byteOk_numbers _ _ (byteOk_words _ _ (byteOk_zeros _))
  have b3 : byteOk (blk3 h) := byteOk_splice b2 (fun c hc => by rw [List.mem_singleton] at hc; omega)
  have b4 : byteOk (blk4 h) := by
    unfold blk4
    rw [layMagic]
    refine byteOk_splice (byteOk_splice (byteOk_splice b3 ?_) ?_) ?_ <;> (intro c hc; simp only [List.mem_cons, List.not_mem_nil, or_false] at hc; omega)
  exact byteOk_splice b4 (signL_byte _)
end
section
open Go.Proofs.YtpedagpcblnnhaaGreatY
theorem textB_size {s : ByteArray} (h : textB s = true) : 1 ≤ s.size ∧ s.size ≤ 300 := by
  unfold textB at h
  simp only [Bool.and_eq_true, decide_eq_true_eq] at h
  exact ⟨h.1, h.2.1⟩
theorem textB_nought {s : ByteArray} (h : textB s = true) : (0 : UInt8) ∉ s.data.toList := by
  unfold textB at h
  simp only [Bool.and_eq_true, decide_eq_true_eq, Bool.not_eq_true'] at h
  intro hm
  rw [List.contains_iff_mem.2 hm] at h
  exact absurd h.2.2 (by decide)
theorem longL_two {kind : Int} {s : ByteArray} (h : s.size ≤ 300) : (longL kind s).length = 2 := by
  rw [longL_length]; unfold manyB; omega
theorem longB_is {kind : Int} {s : ByteArray} (hk : kind = 75 ∨ kind = 76) : longB kind s = if textB s = true then (longL kind s, true) else ([], false) := by
  unfold longB longOk
  rcases hk with rfl | rfl
  · rfl
  · rfl
theorem longL_rows {kind : Int} {s : ByteArray} (h : s.size ≤ 300) : longL kind s = [(headPut (longHd kind s)).1, padL (bytesOf s ++ [0])] := by
  unfold longL
  have hz : (bytesOf s).length = s.size := bytesOf_length s
  have e : bytesOf (s ++ (⟨#[0]⟩ : ByteArray)) = bytesOf s ++ [0] := by rw [bytesOf_append]; rfl
  rw [cutL_eq, e, cutB_cons (by simp), cutB_nil (by rw [List.length_drop, List.length_append, List.length_singleton]; omega), List.take_of_length_le (by rw [List.length_append, List.length_singleton]; omega)]
theorem bytesOf_nought {s : ByteArray} (h : (0 : UInt8) ∉ s.data.toList) : (0 : Int) ∉ bytesOf s := by
  intro hm
  unfold bytesOf at hm
  obtain ⟨c, hc, e⟩ := List.mem_map.1 hm
  have : c = 0 := UInt8.toNat_inj.1 (by simpa using Int.ofNat.inj e)
  exact h (this ▸ hc)
theorem toList_eq {a b : ByteArray} : (a.toList == b.toList) = decide (a = b) := by
  rw [Bool.eq_iff_iff, beq_iff_eq, decide_eq_true_eq]
  constructor
  · intro h
    rw [Lib.toList_data, Lib.toList_data] at h
    exact ByteArray.ext (Array.ext' h)
  · intro h; rw [h]
end
end Go.Proofs.YtpedagpcblnnhaaGreat.X
