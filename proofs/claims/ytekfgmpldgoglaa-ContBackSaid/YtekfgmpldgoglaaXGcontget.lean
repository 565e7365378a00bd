import Derived.Test.YtekfgmpldgoglaaXK
import Derived.Test.YtekfgmpldgoglaaXGhead
import Derived.Test.YtekfgmpldgoglaaXGheadGet
import Derived.Test.YtekfgmpldgoglaaXGslices
import Derived.Test.YtekfgmpldgoglaaYAll
import Derived.Laws.EntriesVeiled
import Derived.WalkSpells
namespace Go.Proofs.Ytekfgmpldgoglaa.X
open Go.RowKit Go.Proofs.YtekfgmpldgoglaaW.PrintWords Go.Proofs.YtekfgmpldgoglaaW.PrintLast Go.Proofs.YtekfgmpldgoglaaW.PrintMore
attribute [local go_sem] max2_int min2_int max_two min_two
set_option linter.unusedVariables false
set_option linter.unusedSimpArgs false

def node0 : Array Value := #[.string ⟨#[]⟩, .string ⟨#[]⟩, .int .u8 0, .int .i64 0, .int .i64 0, .int .i64 0, .int .i64 0, .string ⟨#[]⟩]
theorem nd_size : (Try.prog.info? 23).map (·.size) = some 8 := by kernel_rfl
set_option maxRecDepth 100000 in
set_option maxHeartbeats 1600000 in
theorem cont_Get_1.at_ (w : World) : Calls Try.prog 36 #[] w fun e w' => e = .returned (.tuple #[.agg node0, .int .i64 0, .int .i64 0, .int .i64 0, .bool false]) ∧ Below w.heap.size w w' := by
  go_enter Try.func36, Try.ntmps36
  go_wp2_with (fail)
  refine bodyPost_ret (results_list (rs := [.cell 0 23, .tmp 1, .tmp 2, .tmp 3, .tmp 4]) rfl (by simp) (.cell w.heap.size 23 node0 (0, 0) _ rfl (heap_alloc_new w _) Try.underlying23 rfl nd_size (.tmp (.tmp (.tmp (.tmp .nil)))))) rfl ?_
  exact ⟨rfl, below_alloc (Below.refl w.heap.size w) _⟩
end Go.Proofs.Ytekfgmpldgoglaa.X
namespace Go.Proofs.Ytekfgmpldgoglaa.X
open Go.RowKit Go.Proofs.YtekfgmpldgoglaaW.PrintWords Go.Proofs.YtekfgmpldgoglaaW.PrintLast Go.Proofs.YtekfgmpldgoglaaW.PrintMore
attribute [local go_sem] max2_int min2_int max_two min_two
set_option linter.unusedVariables false
set_option linter.unusedSimpArgs false

open Go.Proofs.YtekfgmpldgoglaaY
set_option maxRecDepth 100000 in
set_option maxHeartbeats 3200000 in
/-- 'next' behind the last row. -/
theorem cont_Get_2.out (b bl : Nat) (A : Option Addr) (n c i : Nat) (w : World) (hb : w.heap[b]? = some (.cells #[.int .i64 i] 3 (0, 0))) (hl : w.heap[bl]? = some (.cells #[.slice A n c] 24 (0, 0))) (hi : n ≤ i) :
    Calls Try.prog 37 #[.pointer (some ⟨b, 0, none⟩), .pointer (some ⟨bl, 0, none⟩)] w fun e w' => e = .returned (.tuple #[.agg (hdCells hd0).toArray, .bool false]) ∧ Below w.heap.size w w' := by
  have e1 : w.cell? ⟨b, 0, none⟩ = some (.int .i64 i) := (blk_cell hb 0).trans rfl
  have e2 : w.cell? ⟨bl, 0, none⟩ = some (.slice A n c) := (blk_cell hl 0).trans rfl
  have h1 : decide (n ≤ i) = true := decide_eq_true hi
  have e3 := pw_cell_below (below_alloc (Below.refl w.heap.size w) (.cells #[.string ⟨#[]⟩, .string ⟨#[]⟩, .string ⟨#[]⟩, .int .i64 0, .int .i64 0, .int .i64 0, .int .i64 0, .int .i64 0, .int .u8 0, .int .i64 0, .int .i64 0] 37)) e1
  have e4 := pw_cell_below (below_alloc (Below.refl w.heap.size w) (.cells #[.string ⟨#[]⟩, .string ⟨#[]⟩, .string ⟨#[]⟩, .int .i64 0, .int .i64 0, .int .i64 0, .int .i64 0, .int .i64 0, .int .u8 0, .int .i64 0, .int .i64 0] 37)) e2
  clear e1 e2
  go_enter Try.func37, Try.ntmps37
  go_wp2_with (fail)
  refine bodyPost_ret (results_list (rs := [.cell 2 37, .tmp 3]) rfl (by simp) (.cell w.heap.size 37 (hdCells hd0).toArray (0, 0) _ rfl (heap_alloc_new w _) Try.underlying37 rfl hd_size (.tmp .nil))) rfl ?_
  exact ⟨rfl, below_alloc (Below.refl w.heap.size w) _⟩
set_option maxRecDepth 100000 in
set_option maxHeartbeats 3200000 in
/-- 'next' at a row. -/
theorem cont_Get_2.at_ (b bl : Nat) (A : Option Addr) (c i : Nat) (l : List (List Int)) (w : World) (hb : w.heap[b]? = some (.cells #[.int .i64 i] 3 (0, 0))) (hl : w.heap[bl]? = some (.cells #[.slice A l.length c] 24 (0, 0))) (hC : Kd.C kRow w A l.length l) (hby : ∀ x ∈ l, ∀ y ∈ x, 0 ≤ y ∧ y ≤ 255) (hi : i < l.length) (hlm : l.length ≤ 1000000) (h : Hd) (er : Int) (hg : headGet (rdR l i) = (h, er)) :
    Calls Try.prog 37 #[.pointer (some ⟨b, 0, none⟩), .pointer (some ⟨bl, 0, none⟩)] w fun e w' => e = .returned (.tuple #[.agg (hdCells h).toArray, .bool (er == 0)]) ∧ Turn (fun k => k = b) w w' ∧ w'.heap[b]? = some (.cells #[.int .i64 ((i + 1 : Nat) : Int)] 3 (0, 0)) := by
  have e1 : w.cell? ⟨b, 0, none⟩ = some (.int .i64 i) := (blk_cell hb 0).trans rfl
  have e2 : w.cell? ⟨bl, 0, none⟩ = some (.slice A l.length c) := (blk_cell hl 0).trans rfl
  obtain ⟨ad, B, d, rfl, hx, hd, hCx⟩ := at_row hC i hi
  have hbelow := below_alloc (Below.refl w.heap.size w) (.cells #[.string ⟨#[]⟩, .string ⟨#[]⟩, .string ⟨#[]⟩, .int .i64 0, .int .i64 0, .int .i64 0, .int .i64 0, .int .i64 0, .int .u8 0, .int .i64 0, .int .i64 0] 37)
  have e3 := pw_cell_below hbelow e1
  have e4 := pw_cell_below hbelow e2
  have e5 := pw_cell_below hbelow hx
  have hget := head_Get.at_ B d (rdR l i) _ (Kd.C_below hCx hbelow) hd (hby _ (by unfold rdR; rw [List.getD_eq_getElem?_getD, List.getElem?_eq_getElem hi]; exact List.getElem_mem hi))
  rw [hg] at hget
  have h1 : decide (l.length ≤ i) = false := decide_eq_false (by omega)
  have hi0 : (0 : Int) ≤ (i : Int) := by omega
  have hi1 : (i : Int) < (l.length : Int) := by omega
  have HB := Aside0.mk hbelow
  have HBB := Aside0.mk (blk_below hb hbelow)
  clear e1 e2 hx hbelow hg hby
  generalize rdR l i = x at e5 hCx hd hget
  obtain ⟨f0, f1, f2, f3, f4, f5, f6, f7, f8, f9, f10⟩ := h
  go_enter Try.func37, Try.ntmps37
  go_upto_region 3 with (fail)
  go_wp2_with (fail)
  refine hget.mono ?_
  rintro e w2 ⟨rfl, hb2⟩
  have HB2 := Aside0.mk (below_step HB.out hb2)
  have HBB2 := Aside0.mk (blk_below HBB.out hb2)
  have HG := Aside0.mk (blk_below (heap_alloc_new w (.cells #[.string ⟨#[]⟩, .string ⟨#[]⟩, .string ⟨#[]⟩, .int .i64 0, .int .i64 0, .int .i64 0, .int .i64 0, .int .i64 0, .int .u8 0, .int .i64 0, .int .i64 0] 37)) hb2)
  have HH := Aside0.mk (heap_alloc_new w2 (.cells #[.string f0, .string f1, .string f2, .int .i64 f3, .int .i64 f4, .int .i64 f5, .int .i64 f6, .int .i64 f7, .int .u8 f8, .int .i64 f9, .int .i64 f10] 37))
  have hbb3 := blk_alloc HBB2.out (.cells #[.string f0, .string f1, .string f2, .int .i64 f3, .int .i64 f4, .int .i64 f5, .int .i64 f6, .int .i64 f7, .int .u8 f8, .int .i64 f9, .int .i64 f10] 37)
  have HBB3 := Aside0.mk hbb3
  have e6 := (blk_cell hbb3 0).trans (show _ = some (Value.int .i64 i) from rfl)
  have e7 := blk_frozen hbb3 0
  have hw : IntKind.i64.wrap ((i : Int) + 1) = ((i + 1 : Nat) : Int) := by rw [i64_w, wrap_id (by omega) (by omega)]; omega
  clear hb2 hget e3 e4 e5 hbb3
  simp only [hdCells]
  go_upto_region 5 with (fail)
  have hlb : b < w.heap.size := blk_lt hb
  have hz2 : w.heap.size < w2.heap.size := blk_lt HG.out
  obtain ⟨W5, hW5⟩ : ∃ W5, ((w2.alloc (.cells #[.string f0, .string f1, .string f2, .int .i64 f3, .int .i64 f4, .int .i64 f5, .int .i64 f6, .int .i64 f7, .int .u8 f8, .int .i64 f9, .int .i64 f10] 37)).setCell ⟨b, 0, none⟩ (.int .i64 ((i : Int) + 1))) = W5 := ⟨_, rfl⟩
  have h5a : W5.heap[w2.heap.size]? = some (.cells #[.string f0, .string f1, .string f2, .int .i64 f3, .int .i64 f4, .int .i64 f5, .int .i64 f6, .int .i64 f7, .int .u8 f8, .int .i64 f9, .int .i64 f10] 37 (0, 0)) := by rw [← hW5]; exact (Below.heap_setCell _ _ _ _ (by simp only; omega)).trans HH.out
  have h5b : W5.heap[w.heap.size]? = some (.cells #[.string ⟨#[]⟩, .string ⟨#[]⟩, .string ⟨#[]⟩, .int .i64 0, .int .i64 0, .int .i64 0, .int .i64 0, .int .i64 0, .int .u8 0, .int .i64 0, .int .i64 0] 37 (0, 0)) := by rw [← hW5]; exact (Below.heap_setCell _ _ _ _ (by simp only; omega)).trans (blk_alloc HG.out _)
  have h5c : W5.heap[b]? = some (.cells #[.int .i64 ((i + 1 : Nat) : Int)] 3 (0, 0)) := by rw [← hW5]; simpa using blk_set HBB3.out 0 (.int .i64 ((i : Int) + 1))
  have h5t : Turn (fun k => k = b) w W5 := by rw [← hW5]; exact (Turn.of_below (below_alloc HB2.out _)).trans (Turn.setCell _ _ rfl)
  rw [hW5]
  have hs5 : w.heap.size < W5.heap.size := blk_lt h5b
  obtain ⟨z0, z1, z2, z3, z4, z5, z6, z7, z8, z9, z10⟩ := cells11 h5a
  have y0 := blk_frozen h5b 0
  have y1 := blk_frozen h5b 1
  have y2 := blk_frozen h5b 2
  have y3 := blk_frozen h5b 3
  have y4 := blk_frozen h5b 4
  have y5 := blk_frozen h5b 5
  have y6 := blk_frozen h5b 6
  have y7 := blk_frozen h5b 7
  have y8 := blk_frozen h5b 8
  have y9 := blk_frozen h5b 9
  have y10 := blk_frozen h5b 10
  obtain ⟨x0, x1, x2, x3, x4, x5, x6, x7, x8, x9, x10⟩ := cells11 h5b
  have H5B := Aside0.mk h5b
  have H5C := Aside0.mk h5c
  have H5T := Aside0.mk h5t
  clear hW5 h5a h5b h5c h5t e6 e7 hb hl
  go_wp2_with (fail)
  refine bodyPost_ret (results_list (rs := [.cell 2 37, .tmp 3]) rfl (by simp) (.cell w.heap.size 37 (hdCells ⟨f0, f1, f2, f3, f4, f5, f6, f7, f8, f9, f10⟩).toArray (0, 0) _ rfl (store_hd H5B.out rfl _ _ _ _ _ _ _ _ _ _ _) Try.underlying37 rfl hd_size (.tmp .nil))) rfl ?_
  have hb := below_hd (Below.refl w.heap.size W5) (Nat.le_refl w.heap.size) (.string f0) (.string f1) (.string f2) (.int .i64 f3) (.int .i64 f4) (.int .i64 f5) (.int .i64 f6) (.int .i64 f7) (.int .u8 f8) (.int .i64 f9) (.int .i64 f10)
  have t := H5T.out
  exact ⟨rfl, ⟨hb.os.trans t.os, hb.tape.trans t.tape, hb.output.trans t.output, Nat.le_trans t.size hb.size, fun k hk hn => (hb.block k hk).trans (t.block k hk hn)⟩, (hb.block b hlb).trans H5C.out⟩

end Go.Proofs.Ytekfgmpldgoglaa.X
