import Derived.Test.YtddjnicmpgbcgaaXK
import Derived.Test.YtddjnicmpgbcgaaYCopy
import Derived.Test.YtddjnicmpgbcgaaYIter
import Derived.Test.YtddjnicmpgbcgaaYRIn
import Derived.Laws.EntriesVeiled
import Derived.RangeFuncBox
import Derived.WalkSpells
namespace Go.Proofs.Ytddjnicmpgbcgaa.X
open Go.RowKit Go.Proofs.YtddjnicmpgbcgaaW.PrintWords Go.Proofs.YtddjnicmpgbcgaaW.PrintLast Go.Proofs.YtddjnicmpgbcgaaW.PrintMore
attribute [local go_sem] max2_int min2_int max_two min_two max_three min_three max_four min_four
set_option linter.unusedVariables false
set_option linter.unusedSimpArgs false

open Go.Proofs.YtddjnicmpgbcgaaY Go.Shelf
attribute [local go_sem] Oper.semAt_some
/-- A text's pieces, of 512 bytes each, but the last one. -/
def piecesA (q : ByteArray) : List ByteArray :=
  if q.size = 0 then [] else q.extract 0 (min q.size 512) :: piecesA (q.extract (min q.size 512) q.size)
  termination_by q.size
  decreasing_by simp only [ByteArray.size_extract]; omega
theorem piecesA_nil {q : ByteArray} (h : q.size = 0) : piecesA q = [] := by rw [piecesA, if_pos h]
theorem piecesA_cons {q : ByteArray} (h : q.size ≠ 0) : piecesA q = q.extract 0 (min q.size 512) :: piecesA (q.extract (min q.size 512) q.size) := by rw [piecesA, if_neg h]
theorem piecesA_size : ∀ (n : Nat) (q : ByteArray), q.size = n → (piecesA q).length ≤ n ∧ ∀ x ∈ piecesA q, x.size ≤ 512 := by
  intro n
  induction n using Nat.strongRecOn with
  | _ n ih =>
  intro q hq
  by_cases h : q.size = 0
  · rw [piecesA_nil h]
    exact ⟨Nat.zero_le _, fun x hx => by cases hx⟩
  · rw [piecesA_cons h]
    have hs : (q.extract (min q.size 512) q.size).size = q.size - min q.size 512 := by rw [ByteArray.size_extract]; omega
    obtain ⟨h1, h2⟩ := ih _ (by omega) _ hs
    refine ⟨by rw [List.length_cons]; omega, fun x hx => ?_⟩
    rcases List.mem_cons.1 hx with rfl | hx
    · rw [ByteArray.size_extract]; omega
    · exact h2 x hx
theorem block_pieces.at_ (p : ByteArray) (w : World) :
    Calls Try.prog 92 #[.string p] w fun e w' => e = .returned (.func (.func 106) #[] #[.pointer (some ⟨w.heap.size, 0, none⟩)]) ∧ w.alloc (.cells #[.string p] 9) = w' := by
  go_enter Try.func92, Try.ntmps92
  go_wp2
  go_ret
  exact ⟨rfl, rfl⟩
def block_pieces.left (b : Nat) (W : World) : Nat := match W.cell? ⟨b, 0, none⟩ with
  | some (.string q) => q.size
  | _ => 0
set_option maxRecDepth 100000 in
set_option maxHeartbeats 2000000 in
theorem block_pieces.yields (n : Nat) (hn : 1 ≤ n) (p : ByteArray) (hp : p.size ≤ 9223372036854775807) (b : Nat) (w : World) (hb : w.heap[b]? = some (.cells #[.string p] 9 (0, 0))) :
    HandsOn Fence.wide n Try.prog 106 #[.pointer (some ⟨b, 0, none⟩)] (fun x : ByteArray => #[Value.string x]) (piecesA p) (fun k => k = b) w := by
  intro l J Jx W hT hJ hJx hY h0
  have hbW : W.heap[b]? = some (.cells #[.string p] 9 (0, 0)) := (hT.block b (blk_lt hb) (fun h => h)).trans hb
  clear hT hb
  refine callsIn_of_wp Try.func106 rfl trivial ?_ rfl
  simp only [Try.ntmps106, List.size_toArray, List.length_cons, List.length_nil, Nat.reduceAdd, Nat.reduceSub, Array.replicate_succ, Array.replicate_zero, List.push_toArray, List.append_toArray, List.nil_append, List.cons_append]
  gi_wp2
  gi_loopw [3] (fun m wr => ∃ (pre : List ByteArray) (q : ByteArray), wr.heap[b]? = some (.cells #[.string q] 9 (0, 0)) ∧ q.size ≤ 9223372036854775807 ∧ piecesA p = pre ++ piecesA q ∧ J pre wr)
    (fun m wr => block_pieces.left b wr)
  case atStart => exact ⟨[], p, hbW, hp, rfl, h0⟩
  case round =>
    obtain ⟨pre, q, hq, hqs, hx, hJs⟩ := hrel
    have hc := blk_cell hq 0
    simp only [List.size_toArray, List.length_cons, List.length_nil, Nat.zero_add, Nat.lt_one_iff, getElem?_pos, List.getElem_toArray, List.getElem_cons_zero] at hc
    have hf := blk_frozen hq 0
    by_cases hz : q.size = 0
    · have hnil : q.toList = ([] : List UInt8) := by
        rw [ByteArray.toList_eq]
        exact List.eq_nil_of_length_eq_zero (by rw [Array.length_toList]; exact hz)
      have hnil2 : q.toList.isEmpty = true := by rw [hnil]; rfl
      rw [piecesA_nil hz, List.append_nil] at hx
      clear hz
      gi_wp2
      go_end0
      rw [← hx] at hJs
      exact ⟨⟨_, rfl⟩, .inl hJs⟩
    · have hne : ¬ q.toList = ([] : List UInt8) := by
        rw [ByteArray.toList_eq]
        intro e
        apply hz
        have := congrArg List.length e
        rw [Array.length_toList] at this
        exact this
      have hne2 : q.toList.isEmpty = false := by
        cases h : q.toList with
        | nil => exact absurd h hne
        | cons _ _ => rfl
      rw [piecesA_cons hz] at hx
      have HZ := Aside0.mk (show 0 < q.size by omega)
      by_cases hc3 : (512 : Int) < q.size
      · have e : min q.size 512 = 512 := by omega
        rw [e] at hx
        have hcb := decide_eq_true hc3
        have hqg : 512 ≤ q.size := by omega
        have hqg2 : (512 : Int) ≤ q.size := by omega
        have HX := Aside0.mk (hx)
        clear e
        clear hx hz
        obtain ⟨fn, tmps, assign, body, hy, hR⟩ := hY pre (q.extract 0 512) _ _ HX.out hJs
        gi_wp2
        refine hR.mono ?_
        rintro e W3 (⟨rfl, hJ3, hsz3, hk3⟩ | ⟨rfl, hJx3⟩)
        · have hb3 := (hk3 b rfl).trans hq
          have hc3 := blk_cell hb3 0
          simp only [List.size_toArray, List.length_cons, List.length_nil, Nat.zero_add, Nat.lt_one_iff, getElem?_pos, List.getElem_toArray, List.getElem_cons_zero] at hc3
          have hf3 := blk_frozen hb3 0
          have hJ4 : J (pre ++ [(q.extract 0 512)]) (W3.setCell ⟨b, 0, none⟩ (.string (q.extract 512 q.size))) := hJ _ _ _ hJ3 (Turn.setCell _ _ rfl)
          have hb4 : (W3.setCell ⟨b, 0, none⟩ (.string (q.extract 512 q.size))).heap[b]? = some (.cells #[.string (q.extract 512 q.size)] 9 (0, 0)) := by
            have := blk_set hb3 0 (.string (q.extract 512 q.size))
            simpa using this
          have HB4 := Aside0.mk hb4
          have HC := Aside0.mk hc
          clear hb4 hc
          gi_wp2
          go_roundw
          case rel => exact ⟨pre ++ [(q.extract 0 512)], (q.extract 512 q.size), HB4.out, by simp only [ByteArray.size_extract]; omega, by rw [HX.out]; simp, hJ4⟩
          case measure =>
            have hc4 := blk_cell HB4.out 0
            simp only [List.size_toArray, List.length_cons, List.length_nil, Nat.zero_add, Nat.lt_one_iff, getElem?_pos, List.getElem_toArray, List.getElem_cons_zero] at hc4
            unfold block_pieces.left
            rw [HC.out, hc4]
            have := HZ.out
            simp only [ByteArray.size_extract]
            omega
        · gi_wp2
          refine bodyPost_ret (results_none rfl _ _ _) rfl ?_
          exact ⟨⟨_, rfl⟩, .inr hJx3⟩
      · have e : min q.size 512 = q.size := by omega
        rw [e, ByteArray.extract_zero_size, show q.extract q.size q.size = ByteArray.empty by simp] at hx
        have hcb := decide_eq_false hc3
        have HX := Aside0.mk (hx)
        clear e
        clear hx hz
        obtain ⟨fn, tmps, assign, body, hy, hR⟩ := hY pre q _ _ HX.out hJs
        gi_wp2
        refine hR.mono ?_
        rintro e W3 (⟨rfl, hJ3, hsz3, hk3⟩ | ⟨rfl, hJx3⟩)
        · have hb3 := (hk3 b rfl).trans hq
          have hc3 := blk_cell hb3 0
          simp only [List.size_toArray, List.length_cons, List.length_nil, Nat.zero_add, Nat.lt_one_iff, getElem?_pos, List.getElem_toArray, List.getElem_cons_zero] at hc3
          have hf3 := blk_frozen hb3 0
          have hJ4 : J (pre ++ [q]) (W3.setCell ⟨b, 0, none⟩ (.string ByteArray.empty)) := hJ _ _ _ hJ3 (Turn.setCell _ _ rfl)
          have hb4 : (W3.setCell ⟨b, 0, none⟩ (.string ByteArray.empty)).heap[b]? = some (.cells #[.string ByteArray.empty] 9 (0, 0)) := by
            have := blk_set hb3 0 (.string ByteArray.empty)
            simpa using this
          have HB4 := Aside0.mk hb4
          have HC := Aside0.mk hc
          clear hb4 hc
          gi_wp2
          go_roundw
          case rel => exact ⟨pre ++ [q], ByteArray.empty, HB4.out, by decide, by rw [HX.out]; simp, hJ4⟩
          case measure =>
            have hc4 := blk_cell HB4.out 0
            simp only [List.size_toArray, List.length_cons, List.length_nil, Nat.zero_add, Nat.lt_one_iff, getElem?_pos, List.getElem_toArray, List.getElem_cons_zero] at hc4
            unfold block_pieces.left
            rw [HC.out, hc4]
            have := HZ.out
            simpa using this
        · gi_wp2
          refine bodyPost_ret (results_none rfl _ _ _) rfl ?_
          exact ⟨⟨_, rfl⟩, .inr hJx3⟩

end Go.Proofs.Ytddjnicmpgbcgaa.X
