import Derived.Test.YtpedagpcblnnhaaGreatXK
import Derived.Test.YtpedagpcblnnhaaGreatXGhead
import Derived.Test.YtpedagpcblnnhaaGreatXGslices
import Derived.Test.YtpedagpcblnnhaaGreatYAll
import Derived.Laws.EntriesVeiled
import Derived.Lib.BufferWrite
import Derived.RangeFuncBox
import Derived.WalkSpells
namespace Go.Proofs.YtpedagpcblnnhaaGreat.X
open Go.RowKit Go.Proofs.YtpedagpcblnnhaaGreatW.PrintWords Go.Proofs.YtpedagpcblnnhaaGreatW.PrintLast Go.Proofs.YtpedagpcblnnhaaGreatW.PrintMore
attribute [local go_sem] max2_int min2_int max_two min_two
set_option linter.unusedVariables false
set_option linter.unusedSimpArgs false
section
open Go.Proofs.YtpedagpcblnnhaaGreatY Go.Shelf
attribute [local go_sem] Oper.semAt_some
def piecesA (q : ByteArray) : List ByteArray :=
  if q.size = 0 then [] else q.extract 0 (min q.size 512) :: piecesA (q.extract (min q.size 512) q.size)
  termination_by q.size
  decreasing_by simp only [ByteArray.size_extract]; omega
theorem piecesA_nil {q : ByteArray} (h : q.size = 0) : piecesA q = [] := by rw [piecesA, if_pos h]
theorem piecesA_cons {q : ByteArray} (h : q.size ≠ 0) : piecesA q = q.extract 0 (min q.size 512) :: piecesA (q.extract (min q.size 512) q.size) := by rw [piecesA, if_neg h]
theorem piecesA_size : ∀ (n : Nat) (q : ByteArray), q.size = n → (piecesA q).length ≤ n ∧ ∀ x ∈ piecesA q, x.size ≤ 512 := by
  intro n
  induction n using Nat.strongRecOn with
  | _ n ih =>
  intro q hq
  by_cases h : q.size = 0
  · rw [piecesA_nil h]
    exact ⟨Nat.zero_le _, fun x hx => by cases hx⟩
  · rw [piecesA_cons h]
    have hs : (q.extract (min q.size 512) q.size).size = q.size - min q.size 512 := by rw [ByteArray.size_extract]; omega
    obtain ⟨h1, h2⟩ := ih _ (by omega) _ hs
    refine ⟨by rw [List.length_cons]; omega, fun x hx => ?_⟩
    rcases List.mem_cons.1 hx with rfl | hx
    · rw [ByteArray.size_extract]; omega
    · exact h2 x hx
theorem block_pieces.at_ (p : ByteArray) (w : World) :
    Calls Tryz.prog 90 #[.string p] w fun e w' => e = .returned (.func (.func 115) #[] #[.pointer (some ⟨w.heap.size, 0, none⟩)]) ∧ w.alloc (.cells #[.string p] 9) = w' := by
  go_enter Tryz.func90, Tryz.ntmps90
  go_wp2
  go_ret
  exact ⟨rfl, rfl⟩
def block_pieces.left (b : Nat) (W : World) : Nat := match W.cell? ⟨b, 0, none⟩ with
  | some (.string q) => q.size
  | _ => 0
set_option maxRecDepth 100000 in
set_option maxHeartbeats 2000000 in
theorem block_pieces.yields (n : Nat) (hn : 1 ≤ n) (p : ByteArray) (hp : p.size ≤ 9223372036854775807) (b : Nat) (w : World) (hb : w.heap[b]? = some (.cells #[.string p] 9 (0, 0))) :
    HandsOn Fence.wide n Tryz.prog 115 #[.pointer (some ⟨b, 0, none⟩)] (fun x : ByteArray => #[Value.string x]) (piecesA p) (fun k => k = b) w := by
  intro l J Jx W hT hJ hJx hY h0
  have hbW : W.heap[b]? = some (.cells #[.string p] 9 (0, 0)) := (hT.block b (blk_lt hb) (fun h => h)).trans hb
  clear hT hb
  refine callsIn_of_wp Tryz.func115 rfl trivial ?_ rfl
  simp only [Tryz.ntmps115, List.size_toArray, List.length_cons, List.length_nil, Nat.reduceAdd, Nat.reduceSub, Array.replicate_succ, Array.replicate_zero, List.push_toArray, List.append_toArray, List.nil_append, List.cons_append]
  gi_wp2
  gi_loopw [3] (fun m wr => ∃ (pre : List ByteArray) (q : ByteArray), wr.heap[b]? = some (.cells #[.string q] 9 (0, 0)) ∧ q.size ≤ 9223372036854775807 ∧ piecesA p = pre ++ piecesA q ∧ J pre wr)
    (fun m wr => block_pieces.left b wr)
  case atStart => exact ⟨[], p, hbW, hp, rfl, h0⟩
  case round =>
    obtain ⟨pre, q, hq, hqs, hx, hJs⟩ := hrel
    have hc := blk_cell hq 0
    simp only [List.size_toArray, List.length_cons, List.length_nil, Nat.zero_add, Nat.lt_one_iff, getElem?_pos, List.getElem_toArray, List.getElem_cons_zero] at hc
    have hf := blk_frozen hq 0
    by_cases hz : q.size = 0
    · have hnil : q.toList = ([] : List UInt8) := by
        rw [ByteArray.toList_eq]
        exact List.eq_nil_of_length_eq_zero (by rw [Array.length_toList]; exact hz)
      have hnil2 : q.toList.isEmpty = true := by rw [hnil]; rfl
      rw [piecesA_nil hz, List.append_nil] at hx
      clear hz
      gi_wp2
      go_end0
      rw [← hx] at hJs
      exact ⟨⟨_, rfl⟩, .inl hJs⟩
    · have hne : ¬ q.toList = ([] : List UInt8) := by
        rw [ByteArray.toList_eq]
        intro e
        apply hz
        have := congrArg List.length e
        rw [Array.length_toList] at this
        exact this
      have hne2 : q.toList.isEmpty = false := by
        cases h : q.toList with
        | nil => exact absurd h hne
        | cons _ _ => rfl
      rw [piecesA_cons hz] at hx
      have HZ := Aside0.mk (show 0 < q.size by omega)
      by_cases hc3 : (512 : Int) < q.size
      · have e : min q.size 512 = 512 := by omega
        rw [e] at hx
        have hcb := decide_eq_true hc3
        have hqg : 512 ≤ q.size := by omega
        have hqg2 : (512 : Int) ≤ q.size := by omega
        have HX := Aside0.mk (hx)
        clear e
        clear hx hz
        obtain ⟨fn, tmps, assign, body, hy, hR⟩ := hY pre (q.extract 0 512) _ _ HX.out hJs
        gi_wp2
        refine hR.mono ?_
        rintro e W3 (⟨rfl, hJ3, hsz3, hk3⟩ | ⟨rfl, hJx3⟩)
        · have hb3 := (hk3 b rfl).trans hq
          have hc3 := blk_cell hb3 0
          simp only [List.size_toArray, List.length_cons, List.length_nil, Nat.zero_add, Nat.lt_one_iff, getElem?_pos, List.getElem_toArray, List.getElem_cons_zero] at hc3
          have hf3 := blk_frozen hb3 0
          have hJ4 : J (pre ++ [(q.extract 0 512)]) (W3.setCell ⟨b, 0, none⟩ (.string (q.extract 512 q.size))) := hJ _ _ _ hJ3 (Turn.setCell _ _ rfl)
          have hb4 : (W3.setCell ⟨b, 0, none⟩ (.string (q.extract 512 q.size))).heap[b]? = some (.cells #[.string (q.extract 512 q.size)] 9 (0, 0)) := by
            have := blk_set hb3 0 (.string (q.extract 512 q.size))
            simpa using this
          have HB4 := Aside0.mk hb4
          have HC := Aside0.mk hc
          clear hb4 hc
          gi_wp2
          go_roundw
          case rel => exact ⟨pre ++ [(q.extract 0 512)], (q.extract 512 q.size), HB4.out, by simp only [ByteArray.size_extract]; omega, by rw [HX.out]; simp, hJ4⟩
          case measure =>
            have hc4 := blk_cell HB4.out 0
            simp only [List.size_toArray, List.length_cons, List.length_nil, Nat.zero_add, Nat.lt_one_iff, getElem?_pos, List.getElem_toArray, List.getElem_cons_zero] at hc4
            unfold block_pieces.left
            rw [HC.out, hc4]
            have := HZ.out
            simp only [ByteArray.size_extract]
            omega
        · gi_wp2
          refine bodyPost_ret (results_none rfl _ _ _) rfl ?_
          exact ⟨⟨_, rfl⟩, .inr hJx3⟩
      · have e : min q.size 512 = q.size := by omega
        rw [e, ByteArray.extract_zero_size, show q.extract q.size q.size = ByteArray.empty by simp] at hx
        have hcb := decide_eq_false hc3
        have HX := Aside0.mk (hx)
        clear e
        clear hx hz
        obtain ⟨fn, tmps, assign, body, hy, hR⟩ := hY pre q _ _ HX.out hJs
        gi_wp2
        refine hR.mono ?_
        rintro e W3 (⟨rfl, hJ3, hsz3, hk3⟩ | ⟨rfl, hJx3⟩)
        · have hb3 := (hk3 b rfl).trans hq
          have hc3 := blk_cell hb3 0
          simp only [List.size_toArray, List.length_cons, List.length_nil, Nat.zero_add, Nat.lt_one_iff, getElem?_pos, List.getElem_toArray, List.getElem_cons_zero] at hc3
          have hf3 := blk_frozen hb3 0
          have hJ4 : J (pre ++ [q]) (W3.setCell ⟨b, 0, none⟩ (.string ByteArray.empty)) := hJ _ _ _ hJ3 (Turn.setCell _ _ rfl)
          have hb4 : (W3.setCell ⟨b, 0, none⟩ (.string ByteArray.empty)).heap[b]? = some (.cells #[.string ByteArray.empty] 9 (0, 0)) := by
            have := blk_set hb3 0 (.string ByteArray.empty)
            simpa using this
          have HB4 := Aside0.mk hb4
          have HC := Aside0.mk hc
          clear hb4 hc
          gi_wp2
          go_roundw
          case rel => exact ⟨pre ++ [q], ByteArray.empty, HB4.out, by decide, by rw [HX.out]; simp, hJ4⟩
          case measure =>
            have hc4 := blk_cell HB4.out 0
            simp only [List.size_toArray, List.length_cons, List.length_nil, Nat.zero_add, Nat.lt_one_iff, getElem?_pos, List.getElem_toArray, List.getElem_cons_zero] at hc4
            unfold block_pieces.left
            rw [HC.out, hc4]
            have := HZ.out
            simpa using this
        · gi_wp2
          refine bodyPost_ret (results_none rfl _ _ _) rfl ?_
          exact ⟨⟨_, rfl⟩, .inr hJx3⟩
end
section
open Go.Proofs.YtpedagpcblnnhaaGreatY Go.Shelf
attribute [local go_sem] Oper.semAt_some
def padB (x : ByteArray) : List Int := bytesOf x ++ List.replicate (512 - x.size) 0
def cutL (s : ByteArray) : List (List Int) := (piecesA s).map padB
def block_Cut.f (a0 : ByteArray) : Option (List (List Int)) := if a0.size ≤ 1000000 then some (cutL a0) else none
theorem setRow_alloc (w : World) (a b : Array Value) (t : TypeId) : (w.alloc (.cells a t)).setRow w.heap.size b = w.alloc (.cells b t) := by
  have hm : ∀ (h : Array Obj) (x : Obj) (f : Obj → Obj), (h.push x).modify h.size f = h.push (f x) := by
    intro h x f
    apply Array.ext
    · simp
    · intro i h1 h2
      simp only [Array.getElem_modify, Array.getElem_push]
      by_cases h' : h.size = i
      · subst h'
        simp
      · have hi : i < h.size := by simp at h1; omega
        simp [h', hi]
  unfold World.setRow
  show ({ w.alloc (.cells a t) with heap := (w.heap.push (.cells a t)).modify w.heap.size _ } : World) = _
  rw [hm]
  rfl
set_option maxRecDepth 100000 in
theorem copy_pad (W : World) (z : List Int) (hz : z = List.replicate 512 0) (x : ByteArray) (hx : x.size ≤ 512) :
    (Builtin.copy_ #[43, 9] 3 #[.slice (some ⟨W.heap.size, 0, none⟩) 512 512, .string x]).run Tryz.prog (W.alloc (.cells (nums .u8 z).toArray 5)) = .ok (goInt x.size) (W.alloc (.cells (nums .u8 (padB x)).toArray 5)) := by
  have hzl : z.length = 512 := by rw [hz, List.length_replicate]
  have h := Lib.run_copy_row_string (P := Tryz.prog) (W.alloc (.cells (nums .u8 z).toArray 5)) 43 9 3 5 W.heap.size 0 512 512 x (nums .u8 z).toArray 5 Tryz.underlying43 (by kernel_rfl) (heap_alloc_new W _) hx (by rw [List.size_toArray, nums_length]; omega)
  rw [h, setRow_alloc]
  have e : List.take 0 (nums .u8 z).toArray.toList ++ Lib.byteCells x.data.toList ++ List.drop (0 + x.size) (nums .u8 z).toArray.toList = nums .u8 (padB x) := by
    unfold padB
    rw [nums_append, List.take_zero, List.nil_append, Nat.zero_add]
    congr 1
    · unfold nums bytesOf Lib.byteCells
      rw [List.map_map]
      rfl
    · show List.drop x.size (nums .u8 z) = _
      unfold nums
      rw [← List.map_drop, hz, List.drop_replicate]
  rw [e]
set_option maxRecDepth 100000 in
set_option maxHeartbeats 2000000 in
theorem block_Cut.calls (a0 : ByteArray) (r : List (List Int)) (w : World) (h : block_Cut.f a0 = some r) :
    Calls Tryz.prog 56 #[.string a0] w fun e w' => ∃ v0_ : Value, e = .returned (v0_) ∧ Kd.R kRow 43 w' w.heap.size (fun _ => True) v0_ r ∧ Below w.heap.size w w' := by
  unfold block_Cut.f at h
  rcases Classical.em (a0.size ≤ 1000000) with hp | hp
  case inr =>
    rw [if_neg hp] at h
    cases h
  rw [if_pos hp] at h
  have hr := Option.some.inj h
  clear h
  have hlen := piecesA_size _ a0 rfl
  have HLEN := Aside0.mk hlen
  have hmk : ∀ W : World, (Instr.makeSlice 43 (.int .i64 512) (.int .i64 512)).run Tryz.prog W = .ok (.slice (some ⟨W.heap.size, 0, none⟩) 512 512) (W.alloc (.cells (nums .u8 (List.replicate 512 0)).toArray 5)) := by
    intro W
    obtain ⟨i0, hi, hz0, hz1, hz2⟩ := info_parts info5
    have := run_make (P := Tryz.prog) W 43 5 i0 (.int .u8 0) Tryz.underlying43 hi hz0 .i64 .i64 512 512 (by decide) (by decide) (by rw [hz2]; decide) (by decide)
    rw [this, hz1]
    show Result.ok _ (W.alloc (.cells (madeCells #[Value.int .u8 0] 512) _)) = _
    rw [made_nums]
    rfl
  obtain ⟨z0, hz0⟩ : ∃ z0, List.replicate 512 (0 : Int) = z0 := ⟨_, rfl⟩
  have hcp := fun W => copy_pad W z0 hz0.symm
  rw [hz0] at hmk
  clear hz0 hlen
  refine (callsIn_wide (n := 10)).1 ?_
  refine callsIn_of_wp_marks Tryz.func56 rfl trivial ?_ rfl
  simp only [Tryz.ntmps56, List.size_toArray, List.length_cons, List.length_nil, Nat.reduceAdd, Nat.reduceSub, Array.replicate_succ, Array.replicate_zero, List.push_toArray, List.append_toArray, List.nil_append, List.cons_append]
  gi_wp2_with (fail)
  refine ⟨trivial, ?_⟩
  refine (callsIn_wide.2 (block_pieces.at_ _ _)).mono ?_
  rintro e w' ⟨rfl, rfl⟩
  gi_wp2_with (fail)
  obtain ⟨W0, hW0⟩ : ∃ W0, ((w.alloc (.cells #[.slice none 0 0] 23)).alloc (.cells #[.string a0] 9)) = W0 := ⟨_, rfl⟩
  have hz : W0.heap.size = w.heap.size + 2 := by rw [← hW0]; simp
  have hBW : Below w.heap.size w W0 := by rw [← hW0]; exact ((Below.refl _ w).alloc (Nat.le_refl _) _).alloc (by simp) _
  have hc0 : W0.heap[w.heap.size]? = some (.cells #[.slice none 0 0] 23 (0, 0)) := by
    rw [← hW0]; exact (Below.heap_alloc _ _ _ (by simp)).trans (World.alloc_heap_new w _)
  have hc2 : W0.heap[w.heap.size + 1]? = some (.cells #[.string a0] 9 (0, 0)) := by
    rw [← hW0]; have := World.alloc_heap_new (w.alloc (.cells #[.slice none 0 0] 23)) (.cells #[.string a0] 9 (0, 0)); rwa [World.size_alloc] at this
  rw [hW0]
  clear hW0
  have HZ := Aside0.mk hz
  clear hz
  refine range_list rfl (by omega) (gf := 115) (lb := #[.pointer (some ⟨w.heap.size + 1, 0, none⟩)]) rfl trivial (enters_of Tryz.func115 (by kernel_rfl) rfl)
    (S := fun k => k = w.heap.size + 1) (fun k hk => by have := HZ.out; omega) (block_pieces.yields 9 (by omega) a0 (by omega) (w.heap.size + 1) W0 hc2) (fun _ => rfl)
    (fun pre W => ∃ v, W.heap[w.heap.size]? = some (.cells #[v] 23 (0, 0)) ∧ Kd.R kRow 43 W (W0.heap.size + 2) (fun _ => True) v (pre.map padB) ∧ Below w.heap.size w W)
    (fun c W => False)
    ?hI ?hIx ⟨_, hc0, Kd.R_nil _ _ _ _ _, hBW⟩
    (fun x => { tmps := #[.string a0, undef, .slice none 0 0, .pointer (some ⟨w.heap.size, 0, none⟩), .string x, undef, .string a0, .func (.func 115) #[] #[.pointer (some ⟨w.heap.size + 1, 0, none⟩)], .string x, undef, undef, undef, undef, undef, undef, undef, undef, undef], defers := [] }) ?assign ?body ?done ?stop
  case hI =>
    rintro pre A A' ⟨v, h1, h2, h4⟩ ht
    have hA := h4.size
    have hZ := HZ.out
    refine ⟨v, (ht.block _ (blk_lt h1) (by omega)).trans h1, ?_, h4.trans (ht.below (fun k hk => by omega) hA)⟩
    exact Kd.R_mono (Kd.R_move (Kd.R_bound h2) (fun k hk => ht.block k hk.2.2.1 (by have := hk.2.1; omega))) (fun _ hk => hk.1)
  case hIx => rintro c A A' h; exact h.elim
  case assign =>
    intro l x W K hK
    gi_wp2
    exact hK
  case body =>
    rintro l pre x post W hx ⟨v, h1, h2, h4⟩ hsz
    have hpl : pre.length + 1 ≤ 1000001 := by
      have := HLEN.out.1
      rw [hx] at this
      simp only [List.length_append, List.length_cons] at this
      omega
    have hxs : x.size ≤ 512 := HLEN.out.2 x (by rw [hx]; simp)
    have hcopy := hcp W x hxs
    have e1 := blk_cell h1 0
    simp only [List.size_toArray, List.length_cons, List.length_nil, Nat.zero_add, Nat.lt_one_iff, getElem?_pos, List.getElem_toArray, List.getElem_cons_zero] at e1
    have e3 := blk_frozen h1 0
    have hltw : w.heap.size < W.heap.size := blk_lt h1
    have hle : W0.heap.size + 2 ≤ W.heap.size := hsz
    have hpd : (padB x).length = 512 := by unfold padB; rw [List.length_append, bytesOf_length, List.length_replicate]; omega
    have hrow : Kd.R (Kd.int .u8) 5 (W.alloc (.cells (nums .u8 (padB x)).toArray 5)) (W0.heap.size + 2) (fun _ => True) (.slice (some ⟨W.heap.size, 0, none⟩) 512 512) (padB x) := by
      have := R_of_block (base := W0.heap.size + 2) (heap_alloc_new W (.cells (nums .u8 (padB x)).toArray 5)) hle (by rw [hpd]; decide)
      rwa [hpd] at this
    have hv2 := Kd.R_alloc h2 (.cells (nums .u8 (padB x)).toArray 5)
    have hB2 := h4.alloc h4.size (.cells (nums .u8 (padB x)).toArray 5)
    have h1b := blk_alloc h1 (.cells (nums .u8 (padB x)).toArray 5)
    have HV2 := Aside0.mk hv2
    have HROW := Aside0.mk hrow
    have HB2 := Aside0.mk hB2
    have HB2W := Aside0.mk (show Below (W0.heap.size + 2) W (W.alloc (.cells (nums .u8 (padB x)).toArray 5)) from (below_alloc (Below.refl _ _) _).mono hle)
    have H1B := Aside0.mk h1b
    have H2 := Aside0.mk h2
    have H1 := Aside0.mk h1
    have hW2s : (W.alloc (.cells (nums .u8 (padB x)).toArray 5)).heap.size = W.heap.size + 1 := World.size_alloc _ _
    have HW2S := Aside0.mk hW2s
    have HPL := Aside0.mk hpl
    have hokp : ∀ k, (fun k => k = W.heap.size) k → (fun _ => True) k ∧ some k ≠ v.ownBlock := by
      rintro k rfl
      exact ⟨trivial, fun e => by have := (Kd.R_lt h2) _ e.symm; omega⟩
    have HOKP := Aside0.mk hokp
    have hrowM : kRow.M (W.alloc (.cells (nums .u8 (padB x)).toArray 5)) (W0.heap.size + 2) (fun k => k = W.heap.size) (padB x) [.slice (some ⟨W.heap.size, 0, none⟩) 512 512] := by
      refine ⟨_, rfl, ?_⟩
      refine Kd.R_mono (Kd.R_tight rfl hrow) (fun k hk => ?_)
      simpa [Value.ownBlock] using hk
    have HROWM := Aside0.mk hrowM
    clear hv2 hrow hB2 h1b h2 hW2s hpl hokp hrowM hpd h1
    gi_wp2_with (gi_at_builtin; go_must (refine RIn_append kRow (w0 := W) (W := W.alloc (.cells (nums .u8 (padB x)).toArray 5)) (W0.heap.size + 2) rfl (.tmp 13) (.tmp 15) 23 43 (.slice none 0 0) 24 rfl Tryz.underlying23 info43 rfl (by decide) (by decide) v (pre.map padB) (padB x) [.slice (some ⟨W.heap.size, 0, none⟩) 512 512] (fun _ => True) (fun k => k = W.heap.size) rfl (by rw [HW2S.out]; rfl) HROWM.out HOKP.out (fun _ _ => trivial) HV2.out HB2W.out (by rw [HW2S.out]; omega) (by rw [List.length_map]; have := HPL.out; omega) ?_; intro v1 w1 hR1 hB1 hg1 hat1; obtain ⟨A1, c1, rfl⟩ := Kd.R_slice hR1; have hbx : w1.heap[w.heap.size]? = some (.cells #[v] 23 (0, 0)) := (hg1.block _ (by rw [HW2S.out]; omega) (fun e => by have := Kd.R_base H2.out _ e.symm; have := HZ.out; omega)).trans H1B.out; have hbc : w1.cell? ⟨w.heap.size, 0, none⟩ = some v := (by have := blk_cell hbx 0; simpa using this); have hbf := blk_frozen hbx 0))
    have hZ := HZ.out
    have e1 : (pre.map padB ++ [padB x]).length = pre.length + 1 := by simp
    rw [e1] at hR1
    have hst : ∀ k, k < W.heap.size → k ≠ w.heap.size → (∀ j, v.ownBlock = some j → k ≠ j) → (w1.setCell ⟨w.heap.size, 0, none⟩ (.slice A1 (pre.length + 1) c1)).heap[k]? = W.heap[k]? := fun k hk hne hj =>
      (Below.heap_setCell _ _ _ _ (by simpa using hne)).trans ((hg1.block k (by rw [HW2S.out]; omega) (fun e => hj k e.symm rfl)).trans (Below.heap_alloc _ _ _ hk))
    refine ⟨⟨?_, fun k hk => ?_⟩, .slice A1 (pre.length + 1) c1, ?_, ?_, ?_⟩
    · have := hg1.size; rw [HW2S.out] at this; simp [World.setCell]; omega
    · refine hst k (by omega) (by omega) (fun j hj => ?_)
      have := Kd.R_base H2.out j hj
      omega
    · simpa using blk_set hbx 0 (.slice A1 (pre.length + 1) c1)
    · rw [List.map_append, List.map_cons, List.map_nil]
      exact Kd.R_mono (Kd.R_move (Kd.R_bound hR1) (fun k hk => Below.heap_setCell _ _ _ _ (by have := hk.2.1; simp only; omega))) (fun _ hk => hk.1)
    · have h5 : Below w.heap.size w w1 := HB2.out.grown hg1 (by rw [HW2S.out]; omega) (fun k e => by have := Kd.R_base H2.out k e; omega)
      exact h5.setCell (p := ⟨w.heap.size, 0, none⟩) (Nat.le_refl _) _
  case done =>
    rintro W ⟨v, h1, h2, h4⟩ hD
    have e1 := blk_cell h1 0
    simp only [List.size_toArray, List.length_cons, List.length_nil, Nat.zero_add, Nat.lt_one_iff, getElem?_pos, List.getElem_toArray, List.getElem_cons_zero] at e1
    have hZ := HZ.out
    have H2 := Aside0.mk h2
    have H4 := Aside0.mk h4
    clear h2 h4
    gi_wp2
    refine ⟨by simp, .inl ⟨_, _, rfl, run_takeDeferred hD, ?_⟩⟩
    refine ⟨_, results_tmp rfl _ _ _, v, rfl, ?_, ?_⟩
    · rw [← hr]
      refine Kd.R_lower (base := W0.heap.size + 2) ?_ (by omega)
      exact Kd.R_mono (Kd.R_move (Kd.R_bound H2.out) (fun k hk => World.putObj_heap_other (by have := hk.2.1; omega))) (fun _ hk => hk.1)
    · exact H4.out.trans ((Turn.putObj (S := fun k => k = W0.heap.size) _ _ rfl).below (fun k hk => by omega) H4.out.size)
  case stop =>
    rintro c W h
    exact h.elim
end
section
mutual
def block_Zeros.j0 : Nat → Int → Bool → Option ((List (List Int)))
  | 0, _, _ => none
  | k + 1, x0, x9 => if x9 = true then (some ([] : List (List Int))) else (block_Zeros.l0 k ([] : List (List Int)) x0 0)
def block_Zeros.l0 : Nat → List (List Int) → Int → Int → Option ((List (List Int)))
  | 0, _, _, _ => none
  | k + 1, x3, x10, x11 => if x11 < x10 then (if 512 ≤ 281474976710656 then (if x3.length < 5864062014805 then (block_Zeros.l0 k (x3 ++ [(List.replicate 512 0)]) x10 (wrap64 (x11 + 1))) else (none)) else (none)) else (some x3)
end
def block_Zeros.f (k : Nat) (a0 : Int) : Option ((List (List Int))) := if a0 < 1 then (block_Zeros.j0 k a0 true) else (block_Zeros.j0 k a0 (decide (a0 > 400)))
theorem block_Zeros.mono_l : ∀ k, (∀ y0 y1, LeO (block_Zeros.j0 k y0 y1) (block_Zeros.j0 (k + 1) y0 y1)) ∧ (∀ y0 y1 y2, LeO (block_Zeros.l0 k y0 y1 y2) (block_Zeros.l0 (k + 1) y0 y1 y2))
  | 0 => ⟨fun _ _ r h => by simp [block_Zeros.j0] at h, fun _ _ _ r h => by simp [block_Zeros.l0] at h⟩
  | k + 1 => by
    obtain ⟨ih0, ih1⟩ := block_Zeros.mono_l k
    refine ⟨?_, ?_⟩
    · intro y0 y1
      unfold block_Zeros.j0
      repeat' first
      | (with_reducible exact ih0 _ _)
      | (with_reducible exact ih1 _ _ _)
      | (with_reducible exact LeO.refl _)
      | (with_reducible exact LeO.none _)
      | (with_reducible refine LeO.ite ?_ ?_)
      | (with_reducible refine LeO.bind ?_ (fun _ => ?_))
      | exact ih0 _ _
      | exact ih1 _ _ _
      | exact LeO.none _
      | refine LeO.ite ?_ ?_
      | refine LeO.bind ?_ (fun _ => ?_)
    · intro y0 y1 y2
      unfold block_Zeros.l0
      repeat' first
      | (with_reducible exact ih0 _ _)
      | (with_reducible exact ih1 _ _ _)
      | (with_reducible exact LeO.refl _)
      | (with_reducible exact LeO.none _)
      | (with_reducible refine LeO.ite ?_ ?_)
      | (with_reducible refine LeO.bind ?_ (fun _ => ?_))
      | exact ih0 _ _
      | exact ih1 _ _ _
      | exact LeO.none _
      | refine LeO.ite ?_ ?_
      | refine LeO.bind ?_ (fun _ => ?_)
theorem block_Zeros.mono : ∀ a0 k, LeO (block_Zeros.f k a0) (block_Zeros.f (k + 1) a0) := by
  intro a0 k
  obtain ⟨ih0, ih1⟩ := block_Zeros.mono_l k
  unfold block_Zeros.f
  repeat' first
      | (with_reducible exact ih0 _ _)
      | (with_reducible exact ih1 _ _ _)
      | (with_reducible exact LeO.refl _)
      | (with_reducible exact LeO.none _)
      | (with_reducible refine LeO.ite ?_ ?_)
      | (with_reducible refine LeO.bind ?_ (fun _ => ?_))
      | exact ih0 _ _
      | exact ih1 _ _ _
      | exact LeO.none _
      | refine LeO.ite ?_ ?_
      | refine LeO.bind ?_ (fun _ => ?_)
set_option maxHeartbeats 8000000 in
set_option maxRecDepth 100000 in
theorem block_Zeros.calls (k : Nat) (a0 : Int) (r : List (List Int)) (w : World) (h : block_Zeros.f k a0 = some r) :
    Calls Tryz.prog 27 #[.int .i64 a0] w fun e w' => ∃ v0_ : Value, e = .returned (v0_) ∧ Kd.R (Kd.slice 5 (Kd.int .u8)) 43 w' w.heap.size (fun _ => True) v0_ r ∧ Below w.heap.size w w' := by
  have HB := Aside0.mk (Below.refl w.heap.size w)
  have H : (if a0 < 1 then (block_Zeros.j0 k a0 true) else (block_Zeros.j0 k a0 (decide (a0 > 400)))) = some r := h
  clear h
  have HC2 := Aside0.mk H
  clear H
  go_enter Tryz.func27, Tryz.ntmps27
  go_upto_region 1 with (fail)
  go_cut [9] (fun v9 wc => ∃ (kq : Nat) (x9_1 : Bool), v9 = .bool x9_1 ∧ Aside0 (block_Zeros.j0 kq a0 x9_1 = some r) ∧ Aside0 (kq ≤ k) ∧ Aside0 (Below w.heap.size w wc))
  case first =>
    have H := HC2.out
    clear HC2
    by_cases c3 : a0 < 1
    · rw [if_pos c3] at H
      have c3b0 : decide (a0 < 1) = true := decide_eq_true c3
      clear c3
      (first | rw [c3b0] | (simp only [i64_w, i32_w]; rw [c3b0]) | skip)
      have H' := Aside0.mk H
      clear H
      go_wp2
      go_meet
      case rel => exact ⟨_, (true), (by first | rfl | (simp; done) | (simp [*]; done)), H', ⟨by first | omega | exact Nat.le_refl _⟩, ⟨by repeat (first | (with_reducible first | exact HB.out | apply below_alloc | apply pw_below_drewN | apply below_drew1) | exact HB.out)⟩⟩
    · rw [if_neg c3] at H
      have c3b0 : decide (a0 < 1) = false := decide_eq_false c3
      clear c3
      (first | rw [c3b0] | (simp only [i64_w, i32_w]; rw [c3b0]) | skip)
      have H' := Aside0.mk H
      clear H
      go_wp2
      go_meet
      case rel => exact ⟨_, (decide (a0 > 400)), (by first | rfl | (simp; done) | (simp [*]; done)), H', ⟨by first | omega | exact Nat.le_refl _⟩, ⟨by repeat (first | (with_reducible first | exact HB.out | apply below_alloc | apply pw_below_drewN | apply below_drew1) | exact HB.out)⟩⟩
  case rest =>
    clear HC2
    try clear c2
    try clear p2
    try clear c3
    try clear c3b0
    obtain ⟨kq, x9_1, rfl, HA, HJ1, HB⟩ := hcut
    cases kq with
    | zero => exact absurd HA.out (by simp [block_Zeros.j0])
    | succ kj1 =>
      have H := HA.out
      clear HA
      simp only [block_Zeros.j0] at H
      by_cases c4 : x9_1 = true
      · subst c4
        have H1 : (some ([] : List (List Int))) = some r := by rw [if_pos rfl] at H; exact H
        clear H
        have H := H1
        clear H1
        obtain rfl := Option.some.inj H
        go_wp2
        go_ret
        exact ⟨_, by first | rfl | (simp [errW_none, errW_some] <;> rfl) | (simp [*, errW_none, errW_some] <;> rfl), by first | exact Kd.R_nil _ _ _ _ _ | exact Kd.N_nil _ _ _ _ _ | exact Kd.V_nil _ _ _ _ _ | exact Kd.Q_nil _ _ _ _ _ | exact Kd.S_nil _ _ _ _ _, by repeat (first | (with_reducible first | exact HB.out | apply below_alloc | apply pw_below_drewN | apply below_drew1) | exact HB.out)⟩
      · replace c4 := Bool.eq_false_iff.mpr c4
        subst c4
        have H1 : (block_Zeros.l0 kj1 ([] : List (List Int)) a0 0) = some r := by rw [if_neg (show ¬ (false = true) by decide)] at H; exact H
        clear H
        have H := H1
        clear H1
        have H' := Aside0.mk H
        clear H
        go_wp2
        go_loopg [3, 11] kj1 (fun kq v3 v11 w' => ∃ (x3_2 : List (List Int)) (x11_2 : Int), v11 = .int .i64 x11_2 ∧ Aside0 (block_Zeros.l0 kq x3_2 a0 x11_2 = some r) ∧ Aside0 (kq ≤ kj1) ∧ Aside0 (Kd.R (Kd.slice 5 (Kd.int .u8)) 43 w' w.heap.size (fun _ => True) v3 x3_2) ∧ Aside0 (Below w.heap.size w w'))
        case atStart => exact ⟨(([] : List (List Int))), (0), (by first | rfl | (simp; done) | (simp [*]; done)), H', ⟨Nat.le_refl _⟩, ⟨by first | exact Kd.R_nil _ _ _ _ _ | exact Kd.N_nil _ _ _ _ _ | exact Kd.V_nil _ _ _ _ _ | exact Kd.Q_nil _ _ _ _ _ | exact Kd.S_nil _ _ _ _ _⟩, ⟨by repeat (first | (with_reducible first | exact HB.out | apply below_alloc | apply pw_below_drewN | apply below_drew1) | exact HB.out)⟩⟩
        case round =>
          clear H'
          try clear c2
          try clear p2
          try clear c3
          try clear c3b0
          try clear c4
          try clear p2
          obtain ⟨x3_2, x11_2, rfl, HA, HK2, HO_3, HB⟩ := hrel
          cases gk with
          | zero => exact absurd HA.out (by simp [block_Zeros.l0])
          | succ k2 =>
            have H := HA.out
            clear HA
            simp only [block_Zeros.l0] at H
            by_cases c5 : x11_2 < a0
            · rw [if_pos c5] at H
              have c5b0 : decide (x11_2 < a0) = true := decide_eq_true c5
              clear c5
              by_cases c6 : 512 ≤ 281474976710656
              · rw [if_pos c6] at H
                have c6b0 := eq_true c6
                have c6b1 : decide (512 ≤ 281474976710656) = true := decide_eq_true c6
                clear c6
                obtain ⟨y101, hy101⟩ : ∃ y_ : List Int, y_ = (List.replicate 512 0) := ⟨_, rfl⟩
                replace H : (if x3_2.length < 5864062014805 then (block_Zeros.l0 k2 (x3_2 ++ [y101]) a0 (wrap64 (x11_2 + 1))) else (none)) = some r := by first | (rw [hy101]; with_reducible exact H) | (have H2_ := (Option.bind_some _ _).symm.trans H; rw [hy101]; with_reducible exact H2_) | (have H2_ := (Option.bind_some _ _).symm.trans H; with_reducible exact H2_) | with_reducible exact H | (rw [hy101]; exact H) | exact H
                have Ny101 := Aside0.mk hy101
                clear hy101
                by_cases c7 : x3_2.length < 5864062014805
                · rw [if_pos c7] at H
                  have LMc7 := Aside0.mk c7
                  clear c7
                  obtain ⟨y104, hy104⟩ : ∃ y_ : List (List Int), y_ = (x3_2 ++ [y101]) := ⟨_, rfl⟩
                  replace H : (block_Zeros.l0 k2 y104 a0 (wrap64 (x11_2 + 1))) = some r := by first | (rw [hy104]; with_reducible exact H) | (have H2_ := (Option.bind_some _ _).symm.trans H; rw [hy104]; with_reducible exact H2_) | (have H2_ := (Option.bind_some _ _).symm.trans H; with_reducible exact H2_) | with_reducible exact H | (rw [hy104]; exact H) | exact H
                  have Ny104 := Aside0.mk hy104
                  clear hy104
                  have H' := Aside0.mk H
                  clear H
                  go_wp2_with (first | ((with_reducible refine gate_dst (N := 14) rfl ?_); refine Kd.R_make (Kd.int .u8) _ 5 rfl (N := 14) rfl 43 _ _ rfl 512 rfl rfl Tryz.underlying43 (.int .u8 0) 1 info5 rfl (by decide) (by omega) 0 (ok := fun _ => True) (okp := fun _ => True) rfl (fun _ hk => hk) trivial (by omega) (by omega) (Below.refl _ _) (Nat.le_refl _) ?_; intro v102 w8 ho9 hb hg_ hnew_; clear hg_ hnew_; (first | rw [← Ny101.out] at ho9 | (simp only [Int.reduceToNat] at ho9; rw [← Ny101.out] at ho9)); have n0_ := Aside0.mk (Kd.R_elder' (by (with_reducible repeat (first | apply Kd.R_alloc | apply Kd.R_drewN | apply Kd.R_drew)); exact HO_3.out) (Kd.R_base ho9) hb); have n1_ := Aside0.mk (Kd.R_lower ho9 (below_size (by repeat (first | (with_reducible first | exact HB.out | apply below_alloc | apply pw_below_drewN | apply below_drew1) | exact HB.out)))); have n2_ := Aside0.mk (below_step (by repeat (first | (with_reducible first | exact HB.out | apply below_alloc | apply pw_below_drewN | apply below_drew1) | exact HB.out)) hb); clear HO_3; clear HB; have HO_3 := n0_; have HO103 := n1_; have HB := n2_; clear n0_ n1_ n2_; clear hb ho9; obtain ⟨Ao11, co11, eo11⟩ := Kd.R_slice HO103.out; subst eo11) | ((with_reducible refine gate_builtin (b := .append) (xs := #[.tmp 13, .tmp 15]) rfl ?_); at_builtin; refine Kd.R_append (Kd.slice 5 (Kd.int .u8)) (w0 := w) w.heap.size rfl (.tmp 13) (.tmp 15) 23 43 (.slice none 0 0) 24 rfl Tryz.underlying23 info43 rfl (by decide) (by omega) u3 x3_2 y101 [.slice Ao11 y101.length co11] (fun _ => True) (fun k_ => ((fun _ => True)) k_ ∧ some k_ ≠ (u3 : Value).ownBlock) rfl rfl ?aP (fun _ hk => hk) ?aF ?aO ?aB ?aS ?aL ?_; (case aP => exact Kd.M_row (Kd.R_mono (Kd.R_apart' (HO103.out) (Kd.R_typed HO_3.out) (by decide)) (fun k_ hk => ⟨trivial, hk.2⟩))); (case aB => exact (by repeat (first | (with_reducible first | exact HB.out | apply below_alloc | apply pw_below_drewN | apply below_drew1) | exact HB.out))); (case aF => exact (fun _ _ => trivial)); (case aO => exact (by (with_reducible repeat (first | apply Kd.R_alloc | apply Kd.R_drewN | apply Kd.R_drew)); exact Kd.R_mono HO_3.out (fun _ hk => trivial))); (case aS => exact (below_size (by repeat (first | (with_reducible first | exact HB.out | apply below_alloc | apply pw_below_drewN | apply below_drew1) | exact HB.out)))); (case aL => have := LMc7.out; omega); intro v105 w10 ho hb hg hat; rw [← Ny104.out] at ho; have n0_ := Aside0.mk (hb); have n1_ := Aside0.mk (ho); clear HB; clear HO_3; clear HO103; have HB := n0_; have HO106 := n1_; clear n0_ n1_; clear ho hb hg hat))
                  go_roundg k2
                  case measure => have := HJ1.out; have := HK2.out; omega
                  case rel => exact ⟨(y104), (wrap64 (x11_2 + 1)), (by first | rfl | (simp; done) | (simp [*]; done)), H', ⟨by have := HJ1.out; have := HK2.out; omega⟩, ⟨by (with_reducible repeat (first | apply Kd.R_alloc | apply Kd.R_drewN | apply Kd.R_drew)); exact HO106.out⟩, ⟨by repeat (first | (with_reducible first | exact HB.out | apply below_alloc | apply pw_below_drewN | apply below_drew1) | exact HB.out)⟩⟩
                · rw [if_neg c7] at H
                  exact absurd H (by simp)
              · rw [if_neg c6] at H
                exact absurd H (by simp)
            · rw [if_neg c5] at H
              have c5b0 : decide (x11_2 < a0) = false := decide_eq_false c5
              clear c5
              obtain rfl := Option.some.inj H
              go_wp2
              go_ret
              exact ⟨_, by first | rfl | (simp [errW_none, errW_some] <;> rfl) | (simp [*, errW_none, errW_some] <;> rfl), by (with_reducible repeat (first | apply Kd.R_alloc | apply Kd.R_drewN | apply Kd.R_drew)); exact HO_3.out, by repeat (first | (with_reducible first | exact HB.out | apply below_alloc | apply pw_below_drewN | apply below_drew1) | exact HB.out)⟩
end
end Go.Proofs.YtpedagpcblnnhaaGreat.X
