/- Paths, plainly: what May of package path computes; small words. -/
import Derived.Test.YtpedagpcblnnhaaXK
import Derived.Test.YtpedagpcblnnhaaXGpath
import Derived.Test.YtpedagpcblnnhaaYAll
import Derived.Test.YtpedagpcblnnhaaXGhead
import Derived.Test.YtpedagpcblnnhaaXGlong
import Derived.Test.YtpedagpcblnnhaaXreelkeeperlaw05Few
import Derived.Lib.IndexAny
namespace Go.Proofs.Ytpedagpcblnnhaa.X
open Go.RowKit Go.Proofs.YtpedagpcblnnhaaW.PrintWords Go.Proofs.YtpedagpcblnnhaaW.PrintLast Go.Proofs.YtpedagpcblnnhaaW.PrintMore
attribute [local go_sem] max2_int min2_int max_two min_two
set_option linter.unusedVariables false
set_option linter.unusedSimpArgs false

open Go.Proofs.YtpedagpcblnnhaaY

theorem wrap_id {x : Int} (h0 : -9223372036854775808 ≤ x) (h1 : x ≤ 9223372036854775807) : wrap64 x = x := by unfold wrap64; omega

theorem mayA_eq (s : ByteArray) : mayA s = mayL s.data.toList := by
  unfold mayA mayL splitA
  have e : decide (Lib.indexByte s.data.toList 0 < 0) = !s.data.toList.contains 0 := by
    rw [Lib.contains_iff_indexByte]
    by_cases h : Lib.indexByte s.data.toList 0 < 0
    · simp [h]
    · simp [h]; omega
  rw [e, List.all_map, Array.length_toList]
  rfl

theorem may_f {s : ByteArray} (h : s.size ≤ 9223372036854775807) : path_May.f s = some (mayL s.data.toList) := by
  unfold path_May.f; rw [if_pos h, mayA_eq]
theorem mayL_size {l : List UInt8} (h : mayL l = true) : l.length ≤ 300 := by
  unfold mayL at h
  simp only [Bool.and_eq_true, decide_eq_true_eq] at h
  exact h.2.1

theorem mayL_append (a b : List UInt8) : mayL (a ++ 47 :: b) = (mayL a && mayL b && decide (a.length + b.length + 1 ≤ 300)) := by
  unfold mayL
  rw [splitL_append, List.all_append]
  have e : (a ++ 47 :: b).contains (0 : UInt8) = (a.contains 0 || b.contains 0) := by
    simp [List.contains_eq_any_beq, List.any_append]
  rw [e]
  simp only [List.length_append, List.length_cons]
  by_cases h1 : a.length + (b.length + 1) ≤ 300
  · have h2 : a.length ≤ 300 := by omega
    have h3 : b.length ≤ 300 := by omega
    have h4 : a.length + b.length + 1 ≤ 300 := by omega
    simp only [h1, h2, h3, h4, decide_true, Bool.true_and, Bool.and_true]
    cases (splitL a).all fun x => !oddL x <;> cases (splitL b).all fun x => !oddL x <;> cases a.contains 0 <;> cases b.contains 0 <;> rfl
  · have h4 : ¬ a.length + b.length + 1 ≤ 300 := by omega
    simp [h1, h4]

theorem mayL_ne {l : List UInt8} (h : mayL l = true) : l ≠ [] := by
  rintro rfl
  revert h; decide

theorem app_data (a b : ByteArray) : (a ++ b).data.toList = a.data.toList ++ b.data.toList := by simp

theorem bt_some {s : ByteArray} {n : Nat} (h : n < s.size) : ∃ c, s.data.toList[n]? = some c ∧ bt s (n : Int) = (c.toNat : Int) := by
  refine ⟨s[n], Lib.data_getElem? s n h, ?_⟩
  rw [← bt_at s (n : Int) (by simpa using h)]
  rfl
theorem bt_eq {s : ByteArray} {n : Nat} {c : UInt8} (h : s.data.toList[n]? = some c) : bt s (n : Int) = (c.toNat : Int) := by
  have hl := (List.getElem?_eq_some_iff.1 h).1
  rw [Array.length_toList] at hl
  obtain ⟨d, h1, h2⟩ := bt_some (s := s) (n := n) hl
  rw [h] at h1
  cases h1
  exact h2
theorem bt_is {s : ByteArray} {n : Nat} (h : n < s.size) (c : UInt8) : bt s (n : Int) = (c.toNat : Int) ↔ s.data.toList[n]? = some c := by
  obtain ⟨d, h1, h2⟩ := bt_some h
  rw [h2, h1]
  constructor
  · intro e; rw [UInt8.toNat_inj.1 (by omega : d.toNat = c.toNat)]
  · intro e; cases e; rfl

theorem list_at {l : List UInt8} {n : Nat} {c : UInt8} (h : l[n]? = some c) : l = l.take n ++ c :: l.drop (n + 1) := by
  obtain ⟨hlt, he⟩ := List.getElem?_eq_some_iff.1 h
  conv => lhs; rw [← List.take_append_drop n l, List.drop_eq_getElem_cons hlt, he]

theorem Ev.of_eq {α : Type} {g : Nat → Option α} {r : α} (h : ∀ k, g k = some r) : Ev g r := ⟨0, fun k _ => h k⟩
theorem Ev.if_pos {α : Type} {c : Prop} [Decidable c] {a b : Nat → Option α} {r : α} (hc : c) (h : Ev a r) : Ev (fun k => if c then a k else b k) r := by simpa only [_root_.if_pos hc] using h
theorem Ev.if_neg {α : Type} {c : Prop} [Decidable c] {a b : Nat → Option α} {r : α} (hc : ¬ c) (h : Ev b r) : Ev (fun k => if c then a k else b k) r := by simpa only [_root_.if_neg hc] using h

end Go.Proofs.Ytpedagpcblnnhaa.X
namespace Go.Proofs.Ytpedagpcblnnhaa.X
open Go.RowKit Go.Proofs.YtpedagpcblnnhaaW.PrintWords Go.Proofs.YtpedagpcblnnhaaW.PrintLast Go.Proofs.YtpedagpcblnnhaaW.PrintMore
attribute [local go_sem] max2_int min2_int max_two min_two
set_option linter.unusedVariables false
set_option linter.unusedSimpArgs false

open Go.Proofs.YtpedagpcblnnhaaY
theorem splice_at {l x : List Int} {p n : Nat} (h : p + x.length ≤ n) (hl : l.length = n) (i : Nat) :
    (splice l p x).getD i 0 = if p ≤ i ∧ i < p + x.length then x.getD (i - p) 0 else l.getD i 0 := by
  unfold splice
  simp only [List.getD_eq_getElem?_getD]
  by_cases h1 : p ≤ i ∧ i < p + x.length
  · rw [if_pos h1, List.getElem?_append_right (by rw [List.length_take]; omega), List.length_take, List.getElem?_append_left (by omega), show i - min p l.length = i - p by omega]
  · rw [if_neg h1]
    by_cases h2 : i < p
    · rw [List.getElem?_append_left (by rw [List.length_take]; omega), List.getElem?_take_of_lt h2]
    · rw [List.getElem?_append_right (by rw [List.length_take]; omega), List.length_take, List.getElem?_append_right (by omega), List.getElem?_drop]
      congr 2
      omega
theorem getD_over {l : List Int} {i : Nat} (h : l.length ≤ i) : l.getD i 0 = 0 := by rw [List.getD_eq_getElem?_getD, List.getElem?_eq_none h]; rfl
theorem ext_at {a b : List Int} (hl : a.length = b.length) (h : ∀ i, i < a.length → a.getD i 0 = b.getD i 0) : a = b := by
  apply List.ext_getElem hl
  intro i h1 h2
  have := h i h1
  simpa [List.getD_eq_getElem?_getD, List.getElem?_eq_getElem h1, List.getElem?_eq_getElem h2] using this
/-- Bytes from a place on, so many. -/
def sub (b : List Int) (p n : Nat) : List Int := (b.drop p).take n
theorem sub_length {b : List Int} {p n : Nat} (h : p + n ≤ b.length) : (sub b p n).length = n := by unfold sub; rw [List.length_take, List.length_drop]; omega
theorem sub_at {b : List Int} {p n i : Nat} (h : i < n) : (sub b p n).getD i 0 = b.getD (p + i) 0 := by
  unfold sub
  simp only [List.getD_eq_getElem?_getD]
  rw [List.getElem?_take_of_lt h, List.getElem?_drop]

theorem hdOk_fit {h : Hd} (ho : hdOk h = true) : (h.f0.size ≤ 100 ∧ h.f2.size ≤ 100 ∧ (h.f8 ≠ 77 → h.f1.size ≤ 155)) ∧ ((putN h.f3 8).2 = true ∧ (putN h.f4 8).2 = true ∧ (putN h.f5 8).2 = true ∧ (putN h.f6 12).2 = true ∧ (putN h.f7 12).2 = true) ∧ (h.f8 = 77 → (putN h.f9 12).2 = true ∧ (putN h.f10 12).2 = true) := by
  obtain ⟨hw, hn⟩ := hdOk_parts ho
  unfold hdWords at hw
  unfold hdNumbers at hn
  by_cases hM : h.f8 = 77
  · rw [if_pos hM] at hw hn
    simp only [List.cons_append, List.nil_append, List.all_cons, List.all_nil, Bool.and_eq_true, wordOk, decide_eq_true_eq] at hw hn
    obtain ⟨h0, h2, _⟩ := hw
    obtain ⟨h3, h4, h5, h6, h7, h9, h10, _⟩ := hn
    exact ⟨⟨by omega, by omega, fun hne => absurd hM hne⟩, ⟨h3, h4, h5, h6, h7⟩, fun _ => ⟨h9, h10⟩⟩
  · rw [if_neg hM] at hw hn
    simp only [List.cons_append, List.nil_append, List.all_cons, List.all_nil, Bool.and_eq_true, wordOk, decide_eq_true_eq] at hw hn
    obtain ⟨h0, h2, h1, _⟩ := hw
    obtain ⟨h3, h4, h5, h6, h7, _⟩ := hn
    exact ⟨⟨by omega, by omega, fun _ => by omega⟩, ⟨h3, h4, h5, h6, h7⟩, fun he => absurd he hM⟩
theorem putN_len8 {n : Int} (h : (putN n 8).2 = true) : (putN n 8).1.length = 8 := (putN_length h).1
theorem putN_len12 {n : Int} (h : (putN n 12).2 = true) : (putN n 12).1.length = 12 := (putN_length h).1
def magic : List Int := [117, 115, 116, 97, 114, 0, 48, 48]
/-- What stands at a place of a header's block (the sum's place: noughts). -/
def cellH (h : Hd) (i : Nat) : Int :=
  if i < 100 then (bytesOf h.f0).getD i 0
  else if i < 108 then (putN h.f3 8).1.getD (i - 100) 0
  else if i < 116 then (putN h.f4 8).1.getD (i - 108) 0
  else if i < 124 then (putN h.f5 8).1.getD (i - 116) 0
  else if i < 136 then (putN h.f6 12).1.getD (i - 124) 0
  else if i < 148 then (putN h.f7 12).1.getD (i - 136) 0
  else if i < 156 then 0
  else if i < 157 then h.f8
  else if i < 257 then (bytesOf h.f2).getD (i - 157) 0
  else if i < 265 then magic.getD (i - 257) 0
  else if i < 345 then 0
  else if h.f8 = 77 then (if i < 369 then 0 else if i < 381 then (putN h.f9 12).1.getD (i - 369) 0 else if i < 483 then 0 else if i < 495 then (putN h.f10 12).1.getD (i - 483) 0 else 0)
  else (bytesOf h.f1).getD (i - 345) 0
theorem chain_nil (L : List Int) (h : L = List.replicate 512 0) (i : Nat) : L.length = 512 ∧ L.getD i 0 = 0 := by
  subst h
  refine ⟨List.length_replicate, ?_⟩
  rw [List.getD_eq_getElem?_getD, List.getElem?_replicate]
  split <;> rfl
theorem chain_step {l x : List Int} {p i : Nat} {v : Int} (hl : l.length = 512 ∧ l.getD i 0 = v) (h : p + x.length ≤ 512) : (splice l p x).length = 512 ∧ (splice l p x).getD i 0 = if p ≤ i ∧ i < p + x.length then x.getD (i - p) 0 else v :=
  ⟨by rw [length_splice _ _ _ (by omega)]; exact hl.1, by rw [splice_at h hl.1, hl.2]⟩
theorem byte_getD_short {s : ByteArray} {j : Nat} (h : s.size ≤ j) : (bytesOf s).getD j 0 = 0 := getD_over (by rw [bytesOf_length]; exact h)
theorem layMagic (L : List Int) : layAll L 257 [[117, 115, 116, 97, 114], [0], [48, 48]] = splice (splice (splice L 257 [117, 115, 116, 97, 114]) 262 [0]) 263 [48, 48] := rfl
set_option maxHeartbeats 1600000 in
set_option maxRecDepth 100000 in
theorem blk4_more {h : Hd} (ho : hdOk h = true) (hM : h.f8 = 77) (i : Nat) : (blk4 h).length = 512 ∧ (blk4 h).getD i 0 = cellH h i := by
  obtain ⟨⟨z0, z2, z1⟩, ⟨n3, n4, n5, n6, n7⟩, n9⟩ := hdOk_fit ho
  have l0 : (bytesOf h.f0).length = h.f0.size := bytesOf_length _
  have l1 : (bytesOf h.f1).length = h.f1.size := bytesOf_length _
  have l2 : (bytesOf h.f2).length = h.f2.size := bytesOf_length _
  have e3 := putN_len8 n3
  have e4 := putN_len8 n4
  have e5 := putN_len8 n5
  have e6 := putN_len12 n6
  have e7 := putN_len12 n7
  have e9 := putN_len12 (n9 hM).1
  have e10 := putN_len12 (n9 hM).2
  have c0 := chain_nil _ rfl i
  have c1 := chain_step (p := 0) (x := bytesOf h.f0) c0 (by first | omega | simp)
  have c2 := chain_step (p := 157) (x := bytesOf h.f2) c1 (by first | omega | simp)
  have c3 := chain_step (p := 100) (x := (putN h.f3 8).1) c2 (by first | omega | simp)
  have c4 := chain_step (p := 108) (x := (putN h.f4 8).1) c3 (by first | omega | simp)
  have c5 := chain_step (p := 116) (x := (putN h.f5 8).1) c4 (by first | omega | simp)
  have c6 := chain_step (p := 124) (x := (putN h.f6 12).1) c5 (by first | omega | simp)
  have c7 := chain_step (p := 136) (x := (putN h.f7 12).1) c6 (by first | omega | simp)
  have c8 := chain_step (p := 369) (x := (putN h.f9 12).1) c7 (by first | omega | simp)
  have c9 := chain_step (p := 483) (x := (putN h.f10 12).1) c8 (by first | omega | simp)
  have c10 := chain_step (p := 156) (x := [h.f8]) c9 (by first | omega | simp)
  have c11 := chain_step (p := 257) (x := [117, 115, 116, 97, 114]) c10 (by first | omega | simp)
  have c12 := chain_step (p := 262) (x := [0]) c11 (by first | omega | simp)
  have c13 := chain_step (p := 263) (x := [48, 48]) c12 (by first | omega | simp)
  have hb : blk4 h = splice (splice (splice (splice (splice (splice (splice (splice (splice (splice (splice (splice (splice (List.replicate 512 0) 0 (bytesOf h.f0)) 157 (bytesOf h.f2)) 100 ((putN h.f3 8).1)) 108 ((putN h.f4 8).1)) 116 ((putN h.f5 8).1)) 124 ((putN h.f6 12).1)) 136 ((putN h.f7 12).1)) 369 ((putN h.f9 12).1)) 483 ((putN h.f10 12).1)) 156 [h.f8]) 257 [117, 115, 116, 97, 114]) 262 [0]) 263 [48, 48] := by
    unfold blk4 blk3 blk2 blk1 hdWords hdNumbers
    rw [if_pos hM, if_pos hM, layMagic]
    rfl
  rw [hb]
  refine ⟨c13.1, c13.2.trans ?_⟩
  unfold cellH
  rw [if_pos hM]
  simp only [l0, l1, l2, e3, e4, e5, e6, e7, e9, e10, List.length_cons, List.length_nil, Nat.zero_add, Nat.sub_zero]
  clear c0 c1 c2 c3 c4 c5 c6 c7 c8 c9 c10 c11 c12 c13 hb ho n3 n4 n5 n6 n7 n9 e3 e4 e5 e6 e7 e9 e10 l0 l1 l2
  by_cases g0 : i < 100
  · by_cases gw : i < 0 + h.f0.size
    · repeat (first | rw [if_pos (by omega)] | rw [if_neg (by omega)])
    · repeat (first | rw [if_pos (by omega)] | rw [if_neg (by omega)])
      exact (byte_getD_short (by omega)).symm
  by_cases g1 : i < 108
  · repeat (first | rw [if_pos (by omega)] | rw [if_neg (by omega)])
  by_cases g2 : i < 116
  · repeat (first | rw [if_pos (by omega)] | rw [if_neg (by omega)])
  by_cases g3 : i < 124
  · repeat (first | rw [if_pos (by omega)] | rw [if_neg (by omega)])
  by_cases g4 : i < 136
  · repeat (first | rw [if_pos (by omega)] | rw [if_neg (by omega)])
  by_cases g5 : i < 148
  · repeat (first | rw [if_pos (by omega)] | rw [if_neg (by omega)])
  by_cases g6 : i < 156
  · repeat (first | rw [if_pos (by omega)] | rw [if_neg (by omega)])
  by_cases g7 : i < 157
  · obtain rfl : i = 156 := by omega
    repeat (first | rw [if_pos (by omega)] | rw [if_neg (by omega)])
    rfl
  by_cases g8 : i < 257
  · by_cases gw : i < 157 + h.f2.size
    · repeat (first | rw [if_pos (by omega)] | rw [if_neg (by omega)])
    · repeat (first | rw [if_pos (by omega)] | rw [if_neg (by omega)])
      exact (byte_getD_short (by omega)).symm
  by_cases g9 : i < 262
  · rcases (show i = 257 ∨ i = 258 ∨ i = 259 ∨ i = 260 ∨ i = 261 by omega) with rfl | rfl | rfl | rfl | rfl <;> (repeat (first | rw [if_pos (by omega)] | rw [if_neg (by omega)]); rfl)
  by_cases g10 : i < 263
  · obtain rfl : i = 262 := by omega
    repeat (first | rw [if_pos (by omega)] | rw [if_neg (by omega)])
    rfl
  by_cases g11 : i < 265
  · rcases (show i = 263 ∨ i = 264 by omega) with rfl | rfl <;> (repeat (first | rw [if_pos (by omega)] | rw [if_neg (by omega)]); rfl)
  by_cases g12 : i < 345
  · repeat (first | rw [if_pos (by omega)] | rw [if_neg (by omega)])
  by_cases g13 : i < 369
  · repeat (first | rw [if_pos (by omega)] | rw [if_neg (by omega)])
  by_cases g14 : i < 381
  · repeat (first | rw [if_pos (by omega)] | rw [if_neg (by omega)])
  by_cases g15 : i < 483
  · repeat (first | rw [if_pos (by omega)] | rw [if_neg (by omega)])
  by_cases g16 : i < 495
  · repeat (first | rw [if_pos (by omega)] | rw [if_neg (by omega)])
  repeat (first | rw [if_pos (by omega)] | rw [if_neg (by omega)])
set_option maxHeartbeats 1600000 in
set_option maxRecDepth 100000 in
theorem blk4_plain {h : Hd} (ho : hdOk h = true) (hM : h.f8 ≠ 77) (i : Nat) : (blk4 h).length = 512 ∧ (blk4 h).getD i 0 = cellH h i := by
  obtain ⟨⟨z0, z2, z1⟩, ⟨n3, n4, n5, n6, n7⟩, n9⟩ := hdOk_fit ho
  have l0 : (bytesOf h.f0).length = h.f0.size := bytesOf_length _
  have l1 : (bytesOf h.f1).length = h.f1.size := bytesOf_length _
  have l2 : (bytesOf h.f2).length = h.f2.size := bytesOf_length _
  have e3 := putN_len8 n3
  have e4 := putN_len8 n4
  have e5 := putN_len8 n5
  have e6 := putN_len12 n6
  have e7 := putN_len12 n7
  have z1 := z1 hM
  have c0 := chain_nil _ rfl i
  have c1 := chain_step (p := 0) (x := bytesOf h.f0) c0 (by first | omega | simp)
  have c2 := chain_step (p := 157) (x := bytesOf h.f2) c1 (by first | omega | simp)
  have c3 := chain_step (p := 345) (x := bytesOf h.f1) c2 (by first | omega | simp)
  have c4 := chain_step (p := 100) (x := (putN h.f3 8).1) c3 (by first | omega | simp)
  have c5 := chain_step (p := 108) (x := (putN h.f4 8).1) c4 (by first | omega | simp)
  have c6 := chain_step (p := 116) (x := (putN h.f5 8).1) c5 (by first | omega | simp)
  have c7 := chain_step (p := 124) (x := (putN h.f6 12).1) c6 (by first | omega | simp)
  have c8 := chain_step (p := 136) (x := (putN h.f7 12).1) c7 (by first | omega | simp)
  have c9 := chain_step (p := 156) (x := [h.f8]) c8 (by first | omega | simp)
  have c10 := chain_step (p := 257) (x := [117, 115, 116, 97, 114]) c9 (by first | omega | simp)
  have c11 := chain_step (p := 262) (x := [0]) c10 (by first | omega | simp)
  have c12 := chain_step (p := 263) (x := [48, 48]) c11 (by first | omega | simp)
  have hb : blk4 h = splice (splice (splice (splice (splice (splice (splice (splice (splice (splice (splice (splice (List.replicate 512 0) 0 (bytesOf h.f0)) 157 (bytesOf h.f2)) 345 (bytesOf h.f1)) 100 ((putN h.f3 8).1)) 108 ((putN h.f4 8).1)) 116 ((putN h.f5 8).1)) 124 ((putN h.f6 12).1)) 136 ((putN h.f7 12).1)) 156 [h.f8]) 257 [117, 115, 116, 97, 114]) 262 [0]) 263 [48, 48] := by
    unfold blk4 blk3 blk2 blk1 hdWords hdNumbers
    rw [if_neg hM, if_neg hM, layMagic]
    rfl
  rw [hb]
  refine ⟨c12.1, c12.2.trans ?_⟩
  unfold cellH
  rw [if_neg hM]
  simp only [l0, l1, l2, e3, e4, e5, e6, e7, List.length_cons, List.length_nil, Nat.zero_add, Nat.sub_zero]
  clear c0 c1 c2 c3 c4 c5 c6 c7 c8 c9 c10 c11 c12 hb ho n3 n4 n5 n6 n7 n9 e3 e4 e5 e6 e7 l0 l1 l2
  by_cases g0 : i < 100
  · by_cases gw : i < 0 + h.f0.size
    · repeat (first | rw [if_pos (by omega)] | rw [if_neg (by omega)])
    · repeat (first | rw [if_pos (by omega)] | rw [if_neg (by omega)])
      exact (byte_getD_short (by omega)).symm
  by_cases g1 : i < 108
  · repeat (first | rw [if_pos (by omega)] | rw [if_neg (by omega)])
  by_cases g2 : i < 116
  · repeat (first | rw [if_pos (by omega)] | rw [if_neg (by omega)])
  by_cases g3 : i < 124
  · repeat (first | rw [if_pos (by omega)] | rw [if_neg (by omega)])
  by_cases g4 : i < 136
  · repeat (first | rw [if_pos (by omega)] | rw [if_neg (by omega)])
  by_cases g5 : i < 148
  · repeat (first | rw [if_pos (by omega)] | rw [if_neg (by omega)])
  by_cases g6 : i < 156
  · repeat (first | rw [if_pos (by omega)] | rw [if_neg (by omega)])
  by_cases g7 : i < 157
  · obtain rfl : i = 156 := by omega
    repeat (first | rw [if_pos (by omega)] | rw [if_neg (by omega)])
    rfl
  by_cases g8 : i < 257
  · by_cases gw : i < 157 + h.f2.size
    · repeat (first | rw [if_pos (by omega)] | rw [if_neg (by omega)])
    · repeat (first | rw [if_pos (by omega)] | rw [if_neg (by omega)])
      exact (byte_getD_short (by omega)).symm
  by_cases g9 : i < 262
  · rcases (show i = 257 ∨ i = 258 ∨ i = 259 ∨ i = 260 ∨ i = 261 by omega) with rfl | rfl | rfl | rfl | rfl <;> (repeat (first | rw [if_pos (by omega)] | rw [if_neg (by omega)]); rfl)
  by_cases g10 : i < 263
  · obtain rfl : i = 262 := by omega
    repeat (first | rw [if_pos (by omega)] | rw [if_neg (by omega)])
    rfl
  by_cases g11 : i < 265
  · rcases (show i = 263 ∨ i = 264 by omega) with rfl | rfl <;> (repeat (first | rw [if_pos (by omega)] | rw [if_neg (by omega)]); rfl)
  by_cases g12 : i < 345
  · repeat (first | rw [if_pos (by omega)] | rw [if_neg (by omega)])
  by_cases gw : i < 345 + h.f1.size
  · repeat (first | rw [if_pos (by omega)] | rw [if_neg (by omega)])
  · repeat (first | rw [if_pos (by omega)] | rw [if_neg (by omega)])
    exact (byte_getD_short (by omega)).symm
theorem blk4_cell {h : Hd} (ho : hdOk h = true) (i : Nat) : (blk4 h).length = 512 ∧ (blk4 h).getD i 0 = cellH h i := by
  by_cases hM : h.f8 = 77
  · exact blk4_more ho hM i
  · exact blk4_plain ho hM i

end Go.Proofs.Ytpedagpcblnnhaa.X
namespace Go.Proofs.Ytpedagpcblnnhaa.X
open Go.RowKit Go.Proofs.YtpedagpcblnnhaaW.PrintWords Go.Proofs.YtpedagpcblnnhaaW.PrintLast Go.Proofs.YtpedagpcblnnhaaW.PrintMore
attribute [local go_sem] max2_int min2_int max_two min_two
set_option linter.unusedVariables false
set_option linter.unusedSimpArgs false

open Go.Proofs.YtpedagpcblnnhaaY
theorem sumL_congr : ∀ (a b : List Int) (i : Nat), a.length = b.length → (∀ j, j < a.length → ¬ (148 ≤ i + j ∧ i + j < 156) → a.getD j 0 = b.getD j 0) → sumL a i = sumL b i
  | [], [], _, _, _ => rfl
  | x :: a, y :: b, i, hl, h => by
    rw [sumL, sumL]
    have h0 := h 0 (by simp)
    have ht := sumL_congr a b (i + 1) (by simpa using hl) (fun j hj hn => by
      have := h (j + 1) (by simp; omega) (by omega)
      simpa using this)
    rw [ht]
    by_cases c : 148 ≤ i ∧ i < 156
    · rw [if_pos c, if_pos c]
    · rw [if_neg c, if_neg c]
      have := h0 (by simpa using c)
      simp at this
      rw [this]
theorem signL_length (n : Int) : (signL n).length = 8 := by unfold signL; rw [List.length_append, octL_length]; rfl
theorem hdBlk_length {h : Hd} (ho : hdOk h = true) : (hdBlk h).length = 512 := by
  unfold hdBlk
  have h4 := (blk4_cell ho 0).1
  rw [length_splice _ _ _ (by rw [signL_length, h4]; decide)]
  exact h4
theorem hdBlk_at {h : Hd} (ho : hdOk h = true) {i : Nat} (hi : ¬ (148 ≤ i ∧ i < 156)) : (hdBlk h).getD i 0 = cellH h i := by
  obtain ⟨h4, hc⟩ := blk4_cell ho i
  unfold hdBlk
  rw [splice_at (n := 512) (by rw [signL_length]; decide) h4 i, signL_length, if_neg (by omega)]
  exact hc
theorem hdBlk_sumL {h : Hd} (ho : hdOk h = true) : sumL (hdBlk h) 0 = sumL (blk4 h) 0 := by
  have h4 := (blk4_cell ho 0).1
  refine sumL_congr _ _ 0 (by rw [hdBlk_length ho, h4]) (fun j hj hn => ?_)
  rw [hdBlk_at ho (by omega)]
  exact ((blk4_cell ho j).2).symm
theorem hdBlk_sign {h : Hd} (ho : hdOk h = true) : sub (hdBlk h) 148 8 = signL (sumL (hdBlk h) 0) := by
  obtain ⟨h4, hc⟩ := blk4_cell ho 0
  have hl := hdBlk_length ho
  rw [hdBlk_sumL ho]
  refine ext_at (by rw [sub_length (by omega), signL_length]) (fun i hi => ?_)
  rw [sub_length (by omega)] at hi
  rw [sub_at hi]
  unfold hdBlk
  rw [splice_at (n := 512) (by rw [signL_length]; decide) h4, signL_length, if_pos (by omega), Nat.add_sub_cancel_left]
theorem hdBlk_read {h : Hd} (ho : hdOk h = true) {p n : Nat} {x : List Int} (hx : x.length = n) (hp : p + n ≤ 512) (hs : p + n ≤ 148 ∨ 156 ≤ p) (hc : ∀ j, j < n → cellH h (p + j) = x.getD j 0) : sub (hdBlk h) p n = x := by
  have hl := hdBlk_length ho
  refine ext_at (by rw [sub_length (by omega), hx]) (fun i hi => ?_)
  rw [sub_length (by omega)] at hi
  rw [sub_at hi, hdBlk_at ho (by omega)]
  exact hc i hi
/-- A text, with noughts behind it. -/
def padTo (n : Nat) (s : ByteArray) : List Int := bytesOf s ++ List.replicate (n - s.size) 0
theorem padTo_length {n : Nat} {s : ByteArray} (h : s.size ≤ n) : (padTo n s).length = n := by unfold padTo; rw [List.length_append, bytesOf_length, List.length_replicate]; omega
theorem padTo_at (n : Nat) (s : ByteArray) (i : Nat) : (padTo n s).getD i 0 = (bytesOf s).getD i 0 := by
  unfold padTo
  simp only [List.getD_eq_getElem?_getD]
  by_cases h : i < s.size
  · rw [List.getElem?_append_left (by rw [bytesOf_length]; exact h)]
  · rw [List.getElem?_append_right (by rw [bytesOf_length]; omega), List.getElem?_replicate, List.getElem?_eq_none (l := bytesOf s) (by rw [bytesOf_length]; omega)]
    split <;> rfl
theorem read_mode {h : Hd} (ho : hdOk h = true) : sub (hdBlk h) 100 8 = (putN h.f3 8).1 := by
  have hf := (hdOk_fit ho).2.1
  refine hdBlk_read ho (putN_len8 (by first | exact hf.1 | exact hf.2.1 | exact hf.2.2.1 | exact hf.2.2.2.1 | exact hf.2.2.2.2)) (by decide) (by decide) (fun j hj => ?_)
  unfold cellH
  repeat (first | rw [if_pos (by omega)] | rw [if_neg (by omega)])
  rw [Nat.add_sub_cancel_left]
theorem read_uid {h : Hd} (ho : hdOk h = true) : sub (hdBlk h) 108 8 = (putN h.f4 8).1 := by
  have hf := (hdOk_fit ho).2.1
  refine hdBlk_read ho (putN_len8 (by first | exact hf.1 | exact hf.2.1 | exact hf.2.2.1 | exact hf.2.2.2.1 | exact hf.2.2.2.2)) (by decide) (by decide) (fun j hj => ?_)
  unfold cellH
  repeat (first | rw [if_pos (by omega)] | rw [if_neg (by omega)])
  rw [Nat.add_sub_cancel_left]
theorem read_gid {h : Hd} (ho : hdOk h = true) : sub (hdBlk h) 116 8 = (putN h.f5 8).1 := by
  have hf := (hdOk_fit ho).2.1
  refine hdBlk_read ho (putN_len8 (by first | exact hf.1 | exact hf.2.1 | exact hf.2.2.1 | exact hf.2.2.2.1 | exact hf.2.2.2.2)) (by decide) (by decide) (fun j hj => ?_)
  unfold cellH
  repeat (first | rw [if_pos (by omega)] | rw [if_neg (by omega)])
  rw [Nat.add_sub_cancel_left]
theorem read_size {h : Hd} (ho : hdOk h = true) : sub (hdBlk h) 124 12 = (putN h.f6 12).1 := by
  have hf := (hdOk_fit ho).2.1
  refine hdBlk_read ho (putN_len12 (by first | exact hf.1 | exact hf.2.1 | exact hf.2.2.1 | exact hf.2.2.2.1 | exact hf.2.2.2.2)) (by decide) (by decide) (fun j hj => ?_)
  unfold cellH
  repeat (first | rw [if_pos (by omega)] | rw [if_neg (by omega)])
  rw [Nat.add_sub_cancel_left]
theorem read_time {h : Hd} (ho : hdOk h = true) : sub (hdBlk h) 136 12 = (putN h.f7 12).1 := by
  have hf := (hdOk_fit ho).2.1
  refine hdBlk_read ho (putN_len12 (by first | exact hf.1 | exact hf.2.1 | exact hf.2.2.1 | exact hf.2.2.2.1 | exact hf.2.2.2.2)) (by decide) (by decide) (fun j hj => ?_)
  unfold cellH
  repeat (first | rw [if_pos (by omega)] | rw [if_neg (by omega)])
  rw [Nat.add_sub_cancel_left]
theorem read_off {h : Hd} (ho : hdOk h = true) (hM : h.f8 = 77) : sub (hdBlk h) 369 12 = (putN h.f9 12).1 := by
  have hf := (hdOk_fit ho).2.2 hM
  refine hdBlk_read ho (putN_len12 hf.1) (by decide) (by decide) (fun j hj => ?_)
  unfold cellH
  rw [if_pos hM]
  repeat (first | rw [if_pos (by omega)] | rw [if_neg (by omega)])
  rw [Nat.add_sub_cancel_left]
theorem read_real {h : Hd} (ho : hdOk h = true) (hM : h.f8 = 77) : sub (hdBlk h) 483 12 = (putN h.f10 12).1 := by
  have hf := (hdOk_fit ho).2.2 hM
  refine hdBlk_read ho (putN_len12 hf.2) (by decide) (by decide) (fun j hj => ?_)
  unfold cellH
  rw [if_pos hM]
  repeat (first | rw [if_pos (by omega)] | rw [if_neg (by omega)])
  rw [Nat.add_sub_cancel_left]
theorem read_name {h : Hd} (ho : hdOk h = true) : sub (hdBlk h) 0 100 = padTo 100 h.f0 := by
  have hf := (hdOk_fit ho).1.1
  refine hdBlk_read ho (padTo_length hf) (by decide) (by decide) (fun j hj => ?_)
  rw [padTo_at]
  unfold cellH
  repeat (first | rw [if_pos (by omega)] | rw [if_neg (by omega)])
  rw [Nat.zero_add]
theorem read_link {h : Hd} (ho : hdOk h = true) : sub (hdBlk h) 157 100 = padTo 100 h.f2 := by
  have hf := (hdOk_fit ho).1.2.1
  refine hdBlk_read ho (padTo_length hf) (by decide) (by decide) (fun j hj => ?_)
  rw [padTo_at]
  unfold cellH
  repeat (first | rw [if_pos (by omega)] | rw [if_neg (by omega)])
  rw [Nat.add_sub_cancel_left]
theorem read_prefix {h : Hd} (ho : hdOk h = true) (hM : h.f8 ≠ 77) : sub (hdBlk h) 345 155 = padTo 155 h.f1 := by
  have hf := (hdOk_fit ho).1.2.2 hM
  refine hdBlk_read ho (padTo_length hf) (by decide) (by decide) (fun j hj => ?_)
  rw [padTo_at]
  unfold cellH
  rw [if_neg hM]
  repeat (first | rw [if_pos (by omega)] | rw [if_neg (by omega)])
  rw [Nat.add_sub_cancel_left]
theorem read_type {h : Hd} (ho : hdOk h = true) : (hdBlk h).getD 156 0 = h.f8 := by
  rw [hdBlk_at ho (by decide)]
  unfold cellH
  repeat (first | rw [if_pos (by omega)] | rw [if_neg (by omega)])

/-! Numbers, read. -/
def octV (l : List Int) : Int := l.foldl (fun n c => n * 8 + (c - 48)) 0
def bytV (l : List Int) : Int := l.foldl (fun n c => n * 256 + c) 0
theorem octV_octL : ∀ (d n : Nat), n / 8 ^ d = 0 → octV (octL n d) = n
  | 0, n, h => by rw [octL]; simp at h; subst h; rfl
  | d + 1, n, h => by
    have ih := octV_octL d (n / 8) (by rw [Nat.div_div_eq_div_mul, ← Nat.pow_succ']; exact h)
    unfold octV at ih ⊢
    rw [octL, List.foldl_append, ih]
    simp only [List.foldl_cons, List.foldl_nil]
    omega
theorem bytV_bytL : ∀ (d n : Nat), n / 256 ^ d = 0 → bytV (bytL n d) = n
  | 0, n, h => by rw [bytL]; simp at h; subst h; rfl
  | d + 1, n, h => by
    have ih := bytV_bytL d (n / 256) (by rw [Nat.div_div_eq_div_mul, ← Nat.pow_succ']; exact h)
    unfold bytV at ih ⊢
    rw [bytL, List.foldl_append, ih]
    simp only [List.foldl_cons, List.foldl_nil]
    omega
theorem octL_digit : ∀ (d n : Nat), ∀ x ∈ octL n d, 48 ≤ x ∧ x ≤ 55
  | 0, _, x, h => by simp [octL] at h
  | d + 1, n, x, h => by
    rw [octL, List.mem_append, List.mem_singleton] at h
    rcases h with h | rfl
    · exact octL_digit d _ x h
    · have := Nat.mod_lt n (show 0 < 8 by decide); omega
/-- The two forms of a number's bytes. -/
theorem putN_forms {n w : Int} (h : (putN n w).2 = true) : 0 ≤ n ∧ 2 ≤ w ∧ w ≤ 20 ∧
    (((putN n w).1 = octL n.toNat (w.toNat - 1) ++ [0] ∧ n.toNat / 8 ^ (w.toNat - 1) = 0) ∨ ((putN n w).1 = 128 :: bytL n.toNat (w.toNat - 1) ∧ n.toNat / 256 ^ (w.toNat - 1) = 0)) := by
  unfold putN at h ⊢
  by_cases c : n < 0 ∨ w < 2 ∨ 20 < w
  · rw [if_pos c] at h; cases h
  · rw [if_neg c] at h ⊢
    refine ⟨by omega, by omega, by omega, ?_⟩
    by_cases c1 : n.toNat / 8 ^ (w.toNat - 1) = 0
    · rw [if_pos c1]; exact .inl ⟨rfl, c1⟩
    · rw [if_neg c1] at h ⊢
      by_cases c2 : n.toNat / 256 ^ (w.toNat - 1) = 0
      · rw [if_pos c2]; exact .inr ⟨rfl, c2⟩
      · rw [if_neg c2] at h; cases h
/-- What a number's bytes tell. -/
def numV (l : List Int) : Int := if l.getD 0 0 = 128 then bytV l.tail else octV l.dropLast
theorem numV_putN {n w : Int} (h : (putN n w).2 = true) : numV (putN n w).1 = n := by
  obtain ⟨h0, hw, _, h1 | h1⟩ := putN_forms h
  · obtain ⟨e, hz⟩ := h1
    rw [e]
    unfold numV
    obtain ⟨d, hd⟩ : ∃ d, w.toNat - 1 = d + 1 := ⟨w.toNat - 2, by omega⟩
    have hne : (octL n.toNat (w.toNat - 1) ++ [0]).getD 0 0 ≠ (128 : Int) := by
      rw [hd, octL_cons]
      simp
      omega
    rw [if_neg hne, List.dropLast_concat, octV_octL _ _ hz]
    omega
  · obtain ⟨e, hz⟩ := h1
    rw [e]
    unfold numV
    rw [if_pos (show (128 :: bytL n.toNat (w.toNat - 1)).getD 0 0 = (128 : Int) from rfl), List.tail_cons, bytV_bytL _ _ hz]
    omega
theorem putN_inj {n m w : Int} (hn : (putN n w).2 = true) (hm : (putN m w).2 = true) (h : (putN n w).1 = (putN m w).1) : n = m := by
  rw [← numV_putN hn, ← numV_putN hm, h]
theorem noNought_iff (s : ByteArray) : noNought s = true ↔ (0 : UInt8) ∉ s.data.toList := by
  unfold noNought
  have h := Lib.contains_iff_indexByte s.data.toList 0
  rw [decide_eq_true_eq]
  by_cases c : (0 : UInt8) ∈ s.data.toList
  · simp [c] at h
    simp only [c, not_true, iff_false]
    omega
  · simp [c] at h
    simp only [c, not_false_iff, iff_true]
    omega

end Go.Proofs.Ytpedagpcblnnhaa.X
namespace Go.Proofs.Ytpedagpcblnnhaa.X
open Go.RowKit Go.Proofs.YtpedagpcblnnhaaW.PrintWords Go.Proofs.YtpedagpcblnnhaaW.PrintLast Go.Proofs.YtpedagpcblnnhaaW.PrintMore
attribute [local go_sem] max2_int min2_int max_two min_two
set_option linter.unusedVariables false
set_option linter.unusedSimpArgs false

open Go.Proofs.YtpedagpcblnnhaaY
def textB (s : ByteArray) : Bool := decide (1 ≤ s.size) && (decide (s.size ≤ 300) && !s.data.toList.contains 0)
theorem long_text (s : ByteArray) : long_Text.f s = some (textB s) := by
  unfold long_Text.f textB strings_IndexByte.f
  have hs : s.data.toList.length = s.size := Array.length_toList
  by_cases h0 : s.toList = ([] : List UInt8)
  · rw [if_pos h0]
    rw [Lib.toList_data] at h0
    rw [h0] at hs
    rw [decide_eq_false (by simp at hs; omega)]
    rfl
  · rw [if_neg h0]
    rw [Lib.toList_data] at h0
    have h1 : 1 ≤ s.size := by
      rcases Nat.eq_zero_or_pos s.size with e | e
      · rw [e] at hs; exact absurd (List.eq_nil_of_length_eq_zero hs) h0
      · exact e
    rw [decide_eq_true h1, Bool.true_and]
    by_cases h2 : (s.size : Int) ≤ 300
    · rw [if_pos h2, decide_eq_true (show s.size ≤ 300 by omega), Bool.true_and]
      simp only [Option.bind_some]
      congr 1
      rw [Lib.contains_iff_indexByte]
      have e0 : (0 : Int).toNat.toUInt8 = (0 : UInt8) := rfl
      rw [e0]
      by_cases h : Lib.indexByte s.data.toList 0 < 0
      · simp [h]
      · simp [h]; omega
    · rw [if_neg h2, decide_eq_false (show ¬ s.size ≤ 300 by omega), Bool.false_and]
/-! ### find, has -/

end Go.Proofs.Ytpedagpcblnnhaa.X
namespace Go.Proofs.Ytpedagpcblnnhaa.X
open Go.RowKit Go.Proofs.YtpedagpcblnnhaaW.PrintWords Go.Proofs.YtpedagpcblnnhaaW.PrintLast Go.Proofs.YtpedagpcblnnhaaW.PrintMore
attribute [local go_sem] max2_int min2_int max_two min_two
set_option linter.unusedVariables false
set_option linter.unusedSimpArgs false

open Go.Proofs.YtpedagpcblnnhaaY
abbrev Nd := S31
def okN (n : Nd) : Bool := decide (n.f0.size ≤ 400) && (decide (n.f1.size ≤ 400) && decide (n.f7.size ≤ 5000))
theorem okN_iff {n : Nd} : okN n = true ↔ n.f0.size ≤ 400 ∧ n.f1.size ≤ 400 ∧ n.f7.size ≤ 5000 := by simp [okN]
theorem few5 (n : Nd) : reelkeeperlaw05_Few.f n.f0 n.f1 n.f2 n.f3 n.f4 n.f5 n.f6 n.f7 = some (okN n) := by
  unfold reelkeeperlaw05_Few.f okN
  by_cases h0 : n.f0.size ≤ 400
  · rw [if_pos (by omega)]
    by_cases h1 : n.f1.size ≤ 400
    · rw [if_pos (by omega)]
      simp only [h0, h1, decide_true, Bool.true_and]
      congr 1
      by_cases h7 : n.f7.size ≤ 5000
      · simp [h7]; omega
      · simp [h7]; omega
    · rw [if_neg (by omega)]; simp [h1]
  · rw [if_neg (by omega)]; simp [h0]

end Go.Proofs.Ytpedagpcblnnhaa.X
