import Derived.Test.YtekfgmpldgoglaaXK
import Derived.Test.YtekfgmpldgoglaaXGhead
import Derived.Test.YtekfgmpldgoglaaXGslices
import Derived.Test.YtekfgmpldgoglaaYAll
import Derived.Laws.EntriesVeiled
import Derived.Lib.BufferWrite
import Derived.RangeFuncBox
import Derived.WalkSpells
namespace Go.Proofs.Ytekfgmpldgoglaa.X
open Go.RowKit Go.Proofs.YtekfgmpldgoglaaW.PrintWords Go.Proofs.YtekfgmpldgoglaaW.PrintLast Go.Proofs.YtekfgmpldgoglaaW.PrintMore
attribute [local go_sem] max2_int min2_int max_two min_two
set_option linter.unusedVariables false
set_option linter.unusedSimpArgs false

open Go.Proofs.YtekfgmpldgoglaaY Go.Shelf
attribute [local go_sem] Oper.semAt_some
/-- A text's pieces, of 512 bytes each, but the last one. -/
def piecesA (q : ByteArray) : List ByteArray :=
  if q.size = 0 then [] else q.extract 0 (min q.size 512) :: piecesA (q.extract (min q.size 512) q.size)
  termination_by q.size
  decreasing_by simp only [ByteArray.size_extract]; omega
theorem piecesA_nil {q : ByteArray} (h : q.size = 0) : piecesA q = [] := by rw [piecesA, if_pos h]
theorem piecesA_cons {q : ByteArray} (h : q.size ≠ 0) : piecesA q = q.extract 0 (min q.size 512) :: piecesA (q.extract (min q.size 512) q.size) := by rw [piecesA, if_neg h]
theorem piecesA_size : ∀ (n : Nat) (q : ByteArray), q.size = n → (piecesA q).length ≤ n ∧ ∀ x ∈ piecesA q, x.size ≤ 512 := by
  intro n
  induction n using Nat.strongRecOn with
  | _ n ih =>
  intro q hq
  by_cases h : q.size = 0
  · rw [piecesA_nil h]
    exact ⟨Nat.zero_le _, fun x hx => by cases hx⟩
  · rw [piecesA_cons h]
    have hs : (q.extract (min q.size 512) q.size).size = q.size - min q.size 512 := by rw [ByteArray.size_extract]; omega
    obtain ⟨h1, h2⟩ := ih _ (by omega) _ hs
    refine ⟨by rw [List.length_cons]; omega, fun x hx => ?_⟩
    rcases List.mem_cons.1 hx with rfl | hx
    · rw [ByteArray.size_extract]; omega
    · exact h2 x hx
theorem block_pieces.at_ (p : ByteArray) (w : World) :
    Calls Try.prog 100 #[.string p] w fun e w' => e = .returned (.func (.func 126) #[] #[.pointer (some ⟨w.heap.size, 0, none⟩)]) ∧ w.alloc (.cells #[.string p] 9) = w' := by
  go_enter Try.func100, Try.ntmps100
  go_wp2
  go_ret
  exact ⟨rfl, rfl⟩
def block_pieces.left (b : Nat) (W : World) : Nat := match W.cell? ⟨b, 0, none⟩ with
  | some (.string q) => q.size
  | _ => 0
set_option maxRecDepth 100000 in
set_option maxHeartbeats 2000000 in
theorem block_pieces.yields (n : Nat) (hn : 1 ≤ n) (p : ByteArray) (hp : p.size ≤ 9223372036854775807) (b : Nat) (w : World) (hb : w.heap[b]? = some (.cells #[.string p] 9 (0, 0))) :
    HandsOn Fence.wide n Try.prog 126 #[.pointer (some ⟨b, 0, none⟩)] (fun x : ByteArray => #[Value.string x]) (piecesA p) (fun k => k = b) w := by
  intro l J Jx W hT hJ hJx hY h0
  have hbW : W.heap[b]? = some (.cells #[.string p] 9 (0, 0)) := (hT.block b (blk_lt hb) (fun h => h)).trans hb
  clear hT hb
  refine callsIn_of_wp Try.func126 rfl trivial ?_ rfl
  simp only [Try.ntmps126, List.size_toArray, List.length_cons, List.length_nil, Nat.reduceAdd, Nat.reduceSub, Array.replicate_succ, Array.replicate_zero, List.push_toArray, List.append_toArray, List.nil_append, List.cons_append]
  gi_wp2
  gi_loopw [3] (fun m wr => ∃ (pre : List ByteArray) (q : ByteArray), wr.heap[b]? = some (.cells #[.string q] 9 (0, 0)) ∧ q.size ≤ 9223372036854775807 ∧ piecesA p = pre ++ piecesA q ∧ J pre wr)
    (fun m wr => block_pieces.left b wr)
  case atStart => exact ⟨[], p, hbW, hp, rfl, h0⟩
  case round =>
    obtain ⟨pre, q, hq, hqs, hx, hJs⟩ := hrel
    have hc := blk_cell hq 0
    simp only [List.size_toArray, List.length_cons, List.length_nil, Nat.zero_add, Nat.lt_one_iff, getElem?_pos, List.getElem_toArray, List.getElem_cons_zero] at hc
    have hf := blk_frozen hq 0
    by_cases hz : q.size = 0
    · have hnil : q.toList = ([] : List UInt8) := by
        rw [ByteArray.toList_eq]
        exact List.eq_nil_of_length_eq_zero (by rw [Array.length_toList]; exact hz)
      have hnil2 : q.toList.isEmpty = true := by rw [hnil]; rfl
      rw [piecesA_nil hz, List.append_nil] at hx
      clear hz
      gi_wp2
      go_end0
      rw [← hx] at hJs
      exact ⟨⟨_, rfl⟩, .inl hJs⟩
    · have hne : ¬ q.toList = ([] : List UInt8) := by
        rw [ByteArray.toList_eq]
        intro e
        apply hz
        have := congrArg List.length e
        rw [Array.length_toList] at this
        exact this
      have hne2 : q.toList.isEmpty = false := by
        cases h : q.toList with
        | nil => exact absurd h hne
        | cons _ _ => rfl
      rw [piecesA_cons hz] at hx
      have HZ := Aside0.mk (show 0 < q.size by omega)
      by_cases hc3 : (512 : Int) < q.size
      · have e : min q.size 512 = 512 := by omega
        rw [e] at hx
        have hcb := decide_eq_true hc3
        have hqg : 512 ≤ q.size := by omega
        have hqg2 : (512 : Int) ≤ q.size := by omega
        have HX := Aside0.mk (hx)
        clear e
        clear hx hz
        obtain ⟨fn, tmps, assign, body, hy, hR⟩ := hY pre (q.extract 0 512) _ _ HX.out hJs
        gi_wp2
        refine hR.mono ?_
        rintro e W3 (⟨rfl, hJ3, hsz3, hk3⟩ | ⟨rfl, hJx3⟩)
        · have hb3 := (hk3 b rfl).trans hq
          have hc3 := blk_cell hb3 0
          simp only [List.size_toArray, List.length_cons, List.length_nil, Nat.zero_add, Nat.lt_one_iff, getElem?_pos, List.getElem_toArray, List.getElem_cons_zero] at hc3
          have hf3 := blk_frozen hb3 0
          have hJ4 : J (pre ++ [(q.extract 0 512)]) (W3.setCell ⟨b, 0, none⟩ (.string (q.extract 512 q.size))) := hJ _ _ _ hJ3 (Turn.setCell _ _ rfl)
          have hb4 : (W3.setCell ⟨b, 0, none⟩ (.string (q.extract 512 q.size))).heap[b]? = some (.cells #[.string (q.extract 512 q.size)] 9 (0, 0)) := by
            have := blk_set hb3 0 (.string (q.extract 512 q.size))
            simpa using this
          have HB4 := Aside0.mk hb4
          have HC := Aside0.mk hc
          clear hb4 hc
          gi_wp2
          go_roundw
          case rel => exact ⟨pre ++ [(q.extract 0 512)], (q.extract 512 q.size), HB4.out, by simp only [ByteArray.size_extract]; omega, by rw [HX.out]; simp, hJ4⟩
          case measure =>
            have hc4 := blk_cell HB4.out 0
            simp only [List.size_toArray, List.length_cons, List.length_nil, Nat.zero_add, Nat.lt_one_iff, getElem?_pos, List.getElem_toArray, List.getElem_cons_zero] at hc4
            unfold block_pieces.left
            rw [HC.out, hc4]
            have := HZ.out
            simp only [ByteArray.size_extract]
            omega
        · gi_wp2
          refine bodyPost_ret (results_none rfl _ _ _) rfl ?_
          exact ⟨⟨_, rfl⟩, .inr hJx3⟩
      · have e : min q.size 512 = q.size := by omega
        rw [e, ByteArray.extract_zero_size, show q.extract q.size q.size = ByteArray.empty by simp] at hx
        have hcb := decide_eq_false hc3
        have HX := Aside0.mk (hx)
        clear e
        clear hx hz
        obtain ⟨fn, tmps, assign, body, hy, hR⟩ := hY pre q _ _ HX.out hJs
        gi_wp2
        refine hR.mono ?_
        rintro e W3 (⟨rfl, hJ3, hsz3, hk3⟩ | ⟨rfl, hJx3⟩)
        · have hb3 := (hk3 b rfl).trans hq
          have hc3 := blk_cell hb3 0
          simp only [List.size_toArray, List.length_cons, List.length_nil, Nat.zero_add, Nat.lt_one_iff, getElem?_pos, List.getElem_toArray, List.getElem_cons_zero] at hc3
          have hf3 := blk_frozen hb3 0
          have hJ4 : J (pre ++ [q]) (W3.setCell ⟨b, 0, none⟩ (.string ByteArray.empty)) := hJ _ _ _ hJ3 (Turn.setCell _ _ rfl)
          have hb4 : (W3.setCell ⟨b, 0, none⟩ (.string ByteArray.empty)).heap[b]? = some (.cells #[.string ByteArray.empty] 9 (0, 0)) := by
            have := blk_set hb3 0 (.string ByteArray.empty)
            simpa using this
          have HB4 := Aside0.mk hb4
          have HC := Aside0.mk hc
          clear hb4 hc
          gi_wp2
          go_roundw
          case rel => exact ⟨pre ++ [q], ByteArray.empty, HB4.out, by decide, by rw [HX.out]; simp, hJ4⟩
          case measure =>
            have hc4 := blk_cell HB4.out 0
            simp only [List.size_toArray, List.length_cons, List.length_nil, Nat.zero_add, Nat.lt_one_iff, getElem?_pos, List.getElem_toArray, List.getElem_cons_zero] at hc4
            unfold block_pieces.left
            rw [HC.out, hc4]
            have := HZ.out
            simpa using this
        · gi_wp2
          refine bodyPost_ret (results_none rfl _ _ _) rfl ?_
          exact ⟨⟨_, rfl⟩, .inr hJx3⟩

end Go.Proofs.Ytekfgmpldgoglaa.X
namespace Go.Proofs.Ytekfgmpldgoglaa.X
open Go.RowKit Go.Proofs.YtekfgmpldgoglaaW.PrintWords Go.Proofs.YtekfgmpldgoglaaW.PrintLast Go.Proofs.YtekfgmpldgoglaaW.PrintMore
attribute [local go_sem] max2_int min2_int max_two min_two
set_option linter.unusedVariables false
set_option linter.unusedSimpArgs false

open Go.Proofs.YtekfgmpldgoglaaY Go.Shelf
attribute [local go_sem] Oper.semAt_some
/-- A piece as a block. -/
def padB (x : ByteArray) : List Int := bytesOf x ++ List.replicate (512 - x.size) 0
/-- A text's blocks. -/
def cutL (s : ByteArray) : List (List Int) := (piecesA s).map padB
def block_Cut.f (a0 : ByteArray) : Option (List (List Int)) := if a0.size ≤ 1000000 then some (cutL a0) else none
theorem setRow_alloc (w : World) (a b : Array Value) (t : TypeId) : (w.alloc (.cells a t)).setRow w.heap.size b = w.alloc (.cells b t) := by
  have hm : ∀ (h : Array Obj) (x : Obj) (f : Obj → Obj), (h.push x).modify h.size f = h.push (f x) := by
    intro h x f
    apply Array.ext
    · simp
    · intro i h1 h2
      simp only [Array.getElem_modify, Array.getElem_push]
      by_cases h' : h.size = i
      · subst h'
        simp
      · have hi : i < h.size := by simp at h1; omega
        simp [h', hi]
  unfold World.setRow
  show ({ w.alloc (.cells a t) with heap := (w.heap.push (.cells a t)).modify w.heap.size _ } : World) = _
  rw [hm]
  rfl
set_option maxRecDepth 100000 in
theorem copy_pad (W : World) (z : List Int) (hz : z = List.replicate 512 0) (x : ByteArray) (hx : x.size ≤ 512) :
    (Builtin.copy_ #[41, 9] 3 #[.slice (some ⟨W.heap.size, 0, none⟩) 512 512, .string x]).run Try.prog (W.alloc (.cells (nums .u8 z).toArray 5)) = .ok (goInt x.size) (W.alloc (.cells (nums .u8 (padB x)).toArray 5)) := by
  have hzl : z.length = 512 := by rw [hz, List.length_replicate]
  have h := Lib.run_copy_row_string (P := Try.prog) (W.alloc (.cells (nums .u8 z).toArray 5)) 41 9 3 5 W.heap.size 0 512 512 x (nums .u8 z).toArray 5 Try.underlying41 (by kernel_rfl) (heap_alloc_new W _) hx (by rw [List.size_toArray, nums_length]; omega)
  rw [h, setRow_alloc]
  have e : List.take 0 (nums .u8 z).toArray.toList ++ Lib.byteCells x.data.toList ++ List.drop (0 + x.size) (nums .u8 z).toArray.toList = nums .u8 (padB x) := by
    unfold padB
    rw [nums_append, List.take_zero, List.nil_append, Nat.zero_add]
    congr 1
    · unfold nums bytesOf Lib.byteCells
      rw [List.map_map]
      rfl
    · show List.drop x.size (nums .u8 z) = _
      unfold nums
      rw [← List.map_drop, hz, List.drop_replicate]
  rw [e]
set_option maxRecDepth 100000 in
set_option maxHeartbeats 2000000 in
theorem block_Cut.calls (a0 : ByteArray) (r : List (List Int)) (w : World) (h : block_Cut.f a0 = some r) :
    Calls Try.prog 59 #[.string a0] w fun e w' => ∃ v0_ : Value, e = .returned (v0_) ∧ Kd.R kRow 41 w' w.heap.size (fun _ => True) v0_ r ∧ Below w.heap.size w w' := by
  unfold block_Cut.f at h
  rcases Classical.em (a0.size ≤ 1000000) with hp | hp
  case inr =>
    rw [if_neg hp] at h
    cases h
  rw [if_pos hp] at h
  have hr := Option.some.inj h
  clear h
  have hlen := piecesA_size _ a0 rfl
  have HLEN := Aside0.mk hlen
  have hmk : ∀ W : World, (Instr.makeSlice 41 (.int .i64 512) (.int .i64 512)).run Try.prog W = .ok (.slice (some ⟨W.heap.size, 0, none⟩) 512 512) (W.alloc (.cells (nums .u8 (List.replicate 512 0)).toArray 5)) := by
    intro W
    obtain ⟨i0, hi, hz0, hz1, hz2⟩ := info_parts info5
    have := run_make (P := Try.prog) W 41 5 i0 (.int .u8 0) Try.underlying41 hi hz0 .i64 .i64 512 512 (by decide) (by decide) (by rw [hz2]; decide) (by decide)
    rw [this, hz1]
    show Result.ok _ (W.alloc (.cells (madeCells #[Value.int .u8 0] 512) _)) = _
    rw [made_nums]
    rfl
  obtain ⟨z0, hz0⟩ : ∃ z0, List.replicate 512 (0 : Int) = z0 := ⟨_, rfl⟩
  have hcp := fun W => copy_pad W z0 hz0.symm
  rw [hz0] at hmk
  clear hz0 hlen
  refine (callsIn_wide (n := 10)).1 ?_
  refine callsIn_of_wp_marks Try.func59 rfl trivial ?_ rfl
  simp only [Try.ntmps59, List.size_toArray, List.length_cons, List.length_nil, Nat.reduceAdd, Nat.reduceSub, Array.replicate_succ, Array.replicate_zero, List.push_toArray, List.append_toArray, List.nil_append, List.cons_append]
  gi_wp2_with (fail)
  refine ⟨trivial, ?_⟩
  refine (callsIn_wide.2 (block_pieces.at_ _ _)).mono ?_
  rintro e w' ⟨rfl, rfl⟩
  gi_wp2_with (fail)
  obtain ⟨W0, hW0⟩ : ∃ W0, ((w.alloc (.cells #[.slice none 0 0] 24)).alloc (.cells #[.string a0] 9)) = W0 := ⟨_, rfl⟩
  have hz : W0.heap.size = w.heap.size + 2 := by rw [← hW0]; simp
  have hBW : Below w.heap.size w W0 := by rw [← hW0]; exact ((Below.refl _ w).alloc (Nat.le_refl _) _).alloc (by simp) _
  have hc0 : W0.heap[w.heap.size]? = some (.cells #[.slice none 0 0] 24 (0, 0)) := by
    rw [← hW0]; exact (Below.heap_alloc _ _ _ (by simp)).trans (World.alloc_heap_new w _)
  have hc2 : W0.heap[w.heap.size + 1]? = some (.cells #[.string a0] 9 (0, 0)) := by
    rw [← hW0]; have := World.alloc_heap_new (w.alloc (.cells #[.slice none 0 0] 24)) (.cells #[.string a0] 9 (0, 0)); rwa [World.size_alloc] at this
  rw [hW0]
  clear hW0
  have HZ := Aside0.mk hz
  clear hz
  refine range_list rfl (by omega) (gf := 126) (lb := #[.pointer (some ⟨w.heap.size + 1, 0, none⟩)]) rfl trivial (enters_of Try.func126 (by kernel_rfl) rfl)
    (S := fun k => k = w.heap.size + 1) (fun k hk => by have := HZ.out; omega) (block_pieces.yields 9 (by omega) a0 (by omega) (w.heap.size + 1) W0 hc2) (fun _ => rfl)
    (fun pre W => ∃ v, W.heap[w.heap.size]? = some (.cells #[v] 24 (0, 0)) ∧ Kd.R kRow 41 W (W0.heap.size + 2) (fun _ => True) v (pre.map padB) ∧ Below w.heap.size w W)
    (fun c W => False)
    ?hI ?hIx ⟨_, hc0, Kd.R_nil _ _ _ _ _, hBW⟩
    (fun x => { tmps := #[.string a0, undef, .slice none 0 0, .pointer (some ⟨w.heap.size, 0, none⟩), .string x, undef, .string a0, .func (.func 126) #[] #[.pointer (some ⟨w.heap.size + 1, 0, none⟩)], .string x, undef, undef, undef, undef, undef, undef, undef, undef, undef], defers := [] }) ?assign ?body ?done ?stop
  case hI =>
    rintro pre A A' ⟨v, h1, h2, h4⟩ ht
    have hA := h4.size
    have hZ := HZ.out
    refine ⟨v, (ht.block _ (blk_lt h1) (by omega)).trans h1, ?_, h4.trans (ht.below (fun k hk => by omega) hA)⟩
    exact Kd.R_mono (Kd.R_move (Kd.R_bound h2) (fun k hk => ht.block k hk.2.2.1 (by have := hk.2.1; omega))) (fun _ hk => hk.1)
  case hIx => rintro c A A' h; exact h.elim
  case assign =>
    intro l x W K hK
    gi_wp2
    exact hK
  case body =>
    rintro l pre x post W hx ⟨v, h1, h2, h4⟩ hsz
    have hpl : pre.length + 1 ≤ 1000001 := by
      have := HLEN.out.1
      rw [hx] at this
      simp only [List.length_append, List.length_cons] at this
      omega
    have hxs : x.size ≤ 512 := HLEN.out.2 x (by rw [hx]; simp)
    have hcopy := hcp W x hxs
    have e1 := blk_cell h1 0
    simp only [List.size_toArray, List.length_cons, List.length_nil, Nat.zero_add, Nat.lt_one_iff, getElem?_pos, List.getElem_toArray, List.getElem_cons_zero] at e1
    have e3 := blk_frozen h1 0
    have hltw : w.heap.size < W.heap.size := blk_lt h1
    have hle : W0.heap.size + 2 ≤ W.heap.size := hsz
    have hpd : (padB x).length = 512 := by unfold padB; rw [List.length_append, bytesOf_length, List.length_replicate]; omega
    have hrow : Kd.R (Kd.int .u8) 5 (W.alloc (.cells (nums .u8 (padB x)).toArray 5)) (W0.heap.size + 2) (fun _ => True) (.slice (some ⟨W.heap.size, 0, none⟩) 512 512) (padB x) := by
      have := R_of_block (base := W0.heap.size + 2) (heap_alloc_new W (.cells (nums .u8 (padB x)).toArray 5)) hle (by rw [hpd]; decide)
      rwa [hpd] at this
    have hv2 := Kd.R_alloc h2 (.cells (nums .u8 (padB x)).toArray 5)
    have hB2 := h4.alloc h4.size (.cells (nums .u8 (padB x)).toArray 5)
    have h1b := blk_alloc h1 (.cells (nums .u8 (padB x)).toArray 5)
    have HV2 := Aside0.mk hv2
    have HROW := Aside0.mk hrow
    have HB2 := Aside0.mk hB2
    have HB2W := Aside0.mk (show Below (W0.heap.size + 2) W (W.alloc (.cells (nums .u8 (padB x)).toArray 5)) from (below_alloc (Below.refl _ _) _).mono hle)
    have H1B := Aside0.mk h1b
    have H2 := Aside0.mk h2
    have H1 := Aside0.mk h1
    have hW2s : (W.alloc (.cells (nums .u8 (padB x)).toArray 5)).heap.size = W.heap.size + 1 := World.size_alloc _ _
    have HW2S := Aside0.mk hW2s
    have HPL := Aside0.mk hpl
    have hokp : ∀ k, (fun k => k = W.heap.size) k → (fun _ => True) k ∧ some k ≠ v.ownBlock := by
      rintro k rfl
      exact ⟨trivial, fun e => by have := (Kd.R_lt h2) _ e.symm; omega⟩
    have HOKP := Aside0.mk hokp
    have hrowM : kRow.M (W.alloc (.cells (nums .u8 (padB x)).toArray 5)) (W0.heap.size + 2) (fun k => k = W.heap.size) (padB x) [.slice (some ⟨W.heap.size, 0, none⟩) 512 512] := by
      refine ⟨_, rfl, ?_⟩
      refine Kd.R_mono (Kd.R_tight rfl hrow) (fun k hk => ?_)
      simpa [Value.ownBlock] using hk
    have HROWM := Aside0.mk hrowM
    clear hv2 hrow hB2 h1b h2 hW2s hpl hokp hrowM hpd h1
    gi_wp2_with (gi_at_builtin; go_must (refine RIn_append kRow (w0 := W) (W := W.alloc (.cells (nums .u8 (padB x)).toArray 5)) (W0.heap.size + 2) rfl (.tmp 13) (.tmp 15) 24 41 (.slice none 0 0) 24 rfl Try.underlying24 info41 rfl (by decide) (by decide) v (pre.map padB) (padB x) [.slice (some ⟨W.heap.size, 0, none⟩) 512 512] (fun _ => True) (fun k => k = W.heap.size) rfl (by rw [HW2S.out]; rfl) HROWM.out HOKP.out (fun _ _ => trivial) HV2.out HB2W.out (by rw [HW2S.out]; omega) (by rw [List.length_map]; have := HPL.out; omega) ?_; intro v1 w1 hR1 hB1 hg1 hat1; obtain ⟨A1, c1, rfl⟩ := Kd.R_slice hR1; have hbx : w1.heap[w.heap.size]? = some (.cells #[v] 24 (0, 0)) := (hg1.block _ (by rw [HW2S.out]; omega) (fun e => by have := Kd.R_base H2.out _ e.symm; have := HZ.out; omega)).trans H1B.out; have hbc : w1.cell? ⟨w.heap.size, 0, none⟩ = some v := (by have := blk_cell hbx 0; simpa using this); have hbf := blk_frozen hbx 0))
    have hZ := HZ.out
    have e1 : (pre.map padB ++ [padB x]).length = pre.length + 1 := by simp
    rw [e1] at hR1
    have hst : ∀ k, k < W.heap.size → k ≠ w.heap.size → (∀ j, v.ownBlock = some j → k ≠ j) → (w1.setCell ⟨w.heap.size, 0, none⟩ (.slice A1 (pre.length + 1) c1)).heap[k]? = W.heap[k]? := fun k hk hne hj =>
      (Below.heap_setCell _ _ _ _ (by simpa using hne)).trans ((hg1.block k (by rw [HW2S.out]; omega) (fun e => hj k e.symm rfl)).trans (Below.heap_alloc _ _ _ hk))
    refine ⟨⟨?_, fun k hk => ?_⟩, .slice A1 (pre.length + 1) c1, ?_, ?_, ?_⟩
    · have := hg1.size; rw [HW2S.out] at this; simp [World.setCell]; omega
    · refine hst k (by omega) (by omega) (fun j hj => ?_)
      have := Kd.R_base H2.out j hj
      omega
    · simpa using blk_set hbx 0 (.slice A1 (pre.length + 1) c1)
    · rw [List.map_append, List.map_cons, List.map_nil]
      exact Kd.R_mono (Kd.R_move (Kd.R_bound hR1) (fun k hk => Below.heap_setCell _ _ _ _ (by have := hk.2.1; simp only; omega))) (fun _ hk => hk.1)
    · have h5 : Below w.heap.size w w1 := HB2.out.grown hg1 (by rw [HW2S.out]; omega) (fun k e => by have := Kd.R_base H2.out k e; omega)
      exact h5.setCell (p := ⟨w.heap.size, 0, none⟩) (Nat.le_refl _) _
  case done =>
    rintro W ⟨v, h1, h2, h4⟩ hD
    have e1 := blk_cell h1 0
    simp only [List.size_toArray, List.length_cons, List.length_nil, Nat.zero_add, Nat.lt_one_iff, getElem?_pos, List.getElem_toArray, List.getElem_cons_zero] at e1
    have hZ := HZ.out
    have H2 := Aside0.mk h2
    have H4 := Aside0.mk h4
    clear h2 h4
    gi_wp2
    refine ⟨by simp, .inl ⟨_, _, rfl, run_takeDeferred hD, ?_⟩⟩
    refine ⟨_, results_tmp rfl _ _ _, v, rfl, ?_, ?_⟩
    · rw [← hr]
      refine Kd.R_lower (base := W0.heap.size + 2) ?_ (by omega)
      exact Kd.R_mono (Kd.R_move (Kd.R_bound H2.out) (fun k hk => World.putObj_heap_other (by have := hk.2.1; omega))) (fun _ hk => hk.1)
    · exact H4.out.trans ((Turn.putObj (S := fun k => k = W0.heap.size) _ _ rfl).below (fun k hk => by omega) H4.out.size)
  case stop =>
    rintro c W h
    exact h.elim

end Go.Proofs.Ytekfgmpldgoglaa.X
namespace Go.Proofs.Ytekfgmpldgoglaa.X
open Go.RowKit Go.Proofs.YtekfgmpldgoglaaW.PrintWords Go.Proofs.YtekfgmpldgoglaaW.PrintLast Go.Proofs.YtekfgmpldgoglaaW.PrintMore
attribute [local go_sem] max2_int min2_int max_two min_two
set_option linter.unusedVariables false
set_option linter.unusedSimpArgs false

def blocksOk (l : List (List Int)) : Bool := !(l.any fun x => x.length != 512)
def block_May.f (l0 : List (List Int)) : Option Bool := some (blocksOk l0)
set_option maxRecDepth 100000 in
theorem block_May_1.at_ (B : Option Addr) (d : Nat) (x : List Int) (w : World) :
    Calls Try.prog 53 #[.slice B x.length d] w fun e w' => e = .returned (.bool (x.length != 512)) ∧ w = w' := by
  by_cases c : x.length = 512
  · have b1 : (x.length != 512) = false := by rw [c]; rfl
    have b2 : ((x.length : Int) != 512) = false := by rw [c]; rfl
    rw [b1]
    clear b1 c
    go_enter Try.func53, Try.ntmps53
    go_wp2
    go_ret
    exact ⟨rfl, rfl⟩
  · have b1 : (x.length != 512) = true := bne_iff_ne.2 c
    have b2 : ((x.length : Int) != 512) = true := bne_iff_ne.2 (by omega)
    rw [b1]
    clear b1 c
    go_enter Try.func53, Try.ntmps53
    go_wp2
    go_ret
    exact ⟨rfl, rfl⟩
set_option maxRecDepth 100000 in
theorem block_May.calls (A0 : Option Addr) (c0 : Nat) (l0 : List (List Int)) (r : Bool) (w : World) (hr0 : Kd.C (Kd.slice 5 (Kd.int .u8)) w A0 l0.length l0) (hc0 : l0.length ≤ c0) (h : block_May.f l0 = some r) :
    Calls Try.prog 23 #[.slice A0 l0.length c0] w fun e w' => e = .returned (.bool r) ∧ Drawn0 w w' := by
  obtain rfl : blocksOk l0 = r := Option.some.inj h
  clear h
  unfold blocksOk
  have hct := slices_ContainsFunc_rows.at_ 53 (fun x => x.length != 512) A0 c0 l0 w (fun args W => enters_ Try.func53 rfl rfl args W) (fun B d x => block_May_1.at_ B d x w) hr0 hc0
  generalize (l0.any fun x => x.length != 512) = b at hct
  clear hr0
  go_enter Try.func23, Try.ntmps23
  go_wp2_with (go_at_call 52; refine hct.mono ?_; rintro e w' ⟨rfl, rfl⟩)
  go_ret
  exact ⟨rfl, Drawn0.refl _⟩

end Go.Proofs.Ytekfgmpldgoglaa.X
namespace Go.Proofs.Ytekfgmpldgoglaa.X
open Go.RowKit Go.Proofs.YtekfgmpldgoglaaW.PrintWords Go.Proofs.YtekfgmpldgoglaaW.PrintLast Go.Proofs.YtekfgmpldgoglaaW.PrintMore
attribute [local go_sem] max2_int min2_int max_two min_two
set_option linter.unusedVariables false
set_option linter.unusedSimpArgs false

/-! ### block_Many: function 62 -/
def block_Many.f (a0 : Int) : Option (Int) := if a0 < 1 then (some 0) else (some (wrap64 ((wrap64 (Int.tdiv (wrap64 (a0 - 1)) 512)) + 1)))
set_option maxHeartbeats 8000000 in
set_option maxRecDepth 100000 in
theorem block_Many.calls (a0 : Int) (r : Int) (w : World) (h : block_Many.f a0 = some r) :
    Calls Try.prog 62 #[.int .i64 a0] w fun e w' => e = .returned (.int .i64 r) ∧ Drawn0 w w' := by
  have H : (if a0 < 1 then (some 0) else (some (wrap64 ((wrap64 (Int.tdiv (wrap64 (a0 - 1)) 512)) + 1)))) = some r := h
  clear h
  by_cases c2 : a0 < 1
  · rw [if_pos c2] at H
    have c2b0 : decide (a0 < 1) = true := decide_eq_true c2
    clear c2
    obtain rfl := Option.some.inj H
    go_enter Try.func62, Try.ntmps62
    go_wp2
    go_ret
    exact ⟨by first | rfl | (simp; done) | (simp [*]; done), by repeat (first | exact Drawn0.refl _ | apply Drawn0.step)⟩
  · rw [if_neg c2] at H
    have c2b0 : decide (a0 < 1) = false := decide_eq_false c2
    clear c2
    obtain rfl := Option.some.inj H
    go_enter Try.func62, Try.ntmps62
    go_wp2
    go_ret
    exact ⟨by first | rfl | (simp; done) | (simp [*]; done), by repeat (first | exact Drawn0.refl _ | apply Drawn0.step)⟩

end Go.Proofs.Ytekfgmpldgoglaa.X
