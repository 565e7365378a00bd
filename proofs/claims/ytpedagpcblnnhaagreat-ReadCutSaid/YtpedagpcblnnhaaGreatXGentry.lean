import Derived.Test.YtpedagpcblnnhaaGreatXK
import Derived.Test.YtpedagpcblnnhaaGreatXGblock
import Derived.Test.YtpedagpcblnnhaaGreatXGhead
import Derived.Test.YtpedagpcblnnhaaGreatXGlong
import Derived.Test.YtpedagpcblnnhaaGreatXGslices
import Derived.Test.YtpedagpcblnnhaaGreatXGtree
import Derived.Test.YtpedagpcblnnhaaGreatYAll
import Derived.Deep.RegionHeld3
import Derived.Laws.EntriesVeiled
import Derived.WalkSpells
namespace Go.Proofs.YtpedagpcblnnhaaGreat.X
open Go.RowKit Go.Proofs.YtpedagpcblnnhaaGreatW.PrintWords Go.Proofs.YtpedagpcblnnhaaGreatW.PrintLast Go.Proofs.YtpedagpcblnnhaaGreatW.PrintMore
attribute [local go_sem] max2_int min2_int max_two min_two
set_option linter.unusedVariables false
set_option linter.unusedSimpArgs false
section
set_option maxHeartbeats 1600000 in
theorem entry_joined.at_ (base b : Nat) (xs : List (Option Addr × Nat × List (List Int))) (w : World) (hb : w.heap[b]? = some (.cells (xs.map inV).toArray 23 (0, 0))) (hxs : ∀ x ∈ xs, InRow base w x) (hl : totalL xs ≤ 100000) (hn : xs.length ≤ 1000) (hbase : base ≤ w.heap.size) :
    Calls Tryz.prog 54 #[.slice (some ⟨b, 0, none⟩) xs.length xs.length] w fun e w' => ∃ v, e = .returned v ∧ Kd.R kRow 43 w' base (fun _ => True) v (flatL xs) ∧ Below w.heap.size w w' := by
  have hcat := slices_Concat.at_ base b xs w hb hxs hl hn hbase
  clear hb hxs
  go_enter Tryz.func54, Tryz.ntmps54
  go_wp2_with (first | (go_at_call 26; refine hcat.mono ?_; rintro e w1 ⟨v, rfl, hR, hB⟩))
  go_ret
  exact ⟨v, rfl, hR, hB⟩
end
section
def entry_entry_head.f (a0_0 : ByteArray) (a0_1 : ByteArray) (a0_2 : Int) (a0_3 : Int) (a0_4 : Int) (a0_5 : Int) (a0_6 : Int) (a0_7 : ByteArray) : Option (ByteArray × ByteArray × ByteArray × Int × Int × Int × Int × Int × Int × Int × Int) := (long_Names.f a0_0 a0_1 a0_2 a0_3 a0_4 a0_5 a0_6 a0_7).bind fun bt103 => (some (bt103.1, bt103.2.1, bt103.2.2, a0_3, a0_4, a0_5, (a0_7.size : Int), a0_6, a0_2, 0, 0))
set_option maxHeartbeats 8000000 in
set_option maxRecDepth 100000 in
theorem entry_entry_head.calls (a0_0 : ByteArray) (a0_1 : ByteArray) (a0_2 : Int) (a0_3 : Int) (a0_4 : Int) (a0_5 : Int) (a0_6 : Int) (a0_7 : ByteArray) (r1 : ByteArray) (r2 : ByteArray) (r3 : ByteArray) (r4 : Int) (r5 : Int) (r6 : Int) (r7 : Int) (r8 : Int) (r9 : Int) (r10 : Int) (r11 : Int) (w : World) (h : entry_entry_head.f a0_0 a0_1 a0_2 a0_3 a0_4 a0_5 a0_6 a0_7 = some (r1, r2, r3, r4, r5, r6, r7, r8, r9, r10, r11)) :
    Calls Tryz.prog 79 #[.agg #[.string a0_0, .string a0_1, .int .u8 a0_2, .int .i64 a0_3, .int .i64 a0_4, .int .i64 a0_5, .int .i64 a0_6, .string a0_7]] w fun e w' => e = .returned (.agg #[.string r1, .string r2, .string r3, .int .i64 r4, .int .i64 r5, .int .i64 r6, .int .i64 r7, .int .i64 r8, .int .u8 r9, .int .i64 r10, .int .i64 r11]) ∧ Below w.heap.size w w' := by
  have hu102 := Tryz.underlying102
  have hu83 := Tryz.underlying83
  have hu41 := Tryz.underlying41
  have HB := Aside0.mk (Below.refl w.heap.size w)
  have H : ((long_Names.f a0_0 a0_1 a0_2 a0_3 a0_4 a0_5 a0_6 a0_7).bind fun bt103 => (some (bt103.1, bt103.2.1, bt103.2.2, a0_3, a0_4, a0_5, (a0_7.size : Int), a0_6, a0_2, 0, 0))) = some (r1, r2, r3, r4, r5, r6, r7, r8, r9, r10, r11) := h
  clear h
  replace H := Option.bind_eq_some_iff.mp H
  obtain ⟨⟨t103, t104, t105⟩, A20, H⟩ := H
  replace H : (some (t103, t104, t105, a0_3, a0_4, a0_5, (a0_7.size : Int), a0_6, a0_2, 0, 0)) = some (r1, r2, r3, r4, r5, r6, r7, r8, r9, r10, r11) := H
  have A2 := Aside0.mk A20
  clear A20
  simp only [Option.some.injEq, Prod.mk.injEq] at H
  obtain ⟨rfl, rfl, rfl, rfl, rfl, rfl, rfl, rfl, rfl, rfl, rfl⟩ := H
  go_enter Tryz.func79, Tryz.ntmps79
  go_wp2_with (first | ((with_reducible refine gate_dst (N := 1) rfl ?_); refine box_event ?hg (N := 1) ?hd (cs := #[.string a0_0, .string a0_1, .int .u8 a0_2, .int .i64 a0_3, .int .i64 a0_4, .int .i64 a0_5, .int .i64 a0_6, .string a0_7]) (t := 102) ?hr ?_; (case hd => rfl); (case hg => rfl); (case hr => first | (go_simp; done) | (go_simp; rfl)); intro gb101 hg w3 hbox hb; have n0_ := Aside0.mk (below_step (by repeat (first | (with_reducible first | exact HB.out | apply below_alloc | apply pw_below_drewN | apply below_drew1) | exact HB.out)) hb); have n1_ := Aside0.mk (hbox); have n2_ := Aside0.mk ((by rw [hg]; exact (below_size (by repeat (first | (with_reducible first | exact HB.out | apply below_alloc | apply pw_below_drewN | apply below_drew1) | exact HB.out))) : w.heap.size ≤ gb101)); have n3_ := Aside0.mk ((by rw [hg]; exact (below_size (by repeat (first | (with_reducible first | exact HB.out | apply below_alloc | apply pw_below_drewN | apply below_drew1) | exact HB.out))) : w.heap.size ≤ gb101)); clear HB; have HB := n0_; have BK101 := n1_; have GW101 := n2_; have GE101 := n3_; clear n0_ n1_ n2_ n3_; clear hb hbox hg) | ((with_reducible refine gate_dst (N := 2) rfl ?_); refine box_event ?hg (N := 2) ?hd (cs := #[.string (⟨#[]⟩ : ByteArray), .string (⟨#[]⟩ : ByteArray), .string (⟨#[]⟩ : ByteArray), .int .i64 0, .int .i64 0, .int .i64 0, .int .i64 0, .int .i64 0, .int .u8 0, .int .i64 0, .int .i64 0]) (t := 83) ?hr ?_; (case hd => rfl); (case hg => rfl); (case hr => first | (go_simp; done) | (go_simp; rfl)); intro gb102 hg w4 hbox hb; have n0_ := Aside0.mk (blk_below (g := gb101) (o := .cells #[.string a0_0, .string a0_1, .int .u8 a0_2, .int .i64 a0_3, .int .i64 a0_4, .int .i64 a0_5, .int .i64 a0_6, .string a0_7] 102 (0, 0)) (by (with_reducible repeat (first | refine blk_drewN ?_ _ | refine blk_drew ?_ | refine blk_alloc ?_ _)); exact BK101.out) hb); have n1_ := Aside0.mk (below_step (by repeat (first | (with_reducible first | exact HB.out | apply below_alloc | apply pw_below_drewN | apply below_drew1 | refine below_set ?_ GE101.out) | exact HB.out)) hb); have n2_ := Aside0.mk (hbox); have n3_ := Aside0.mk ((by rw [hg]; exact (below_size (by repeat (first | (with_reducible first | exact HB.out | apply below_alloc | apply pw_below_drewN | apply below_drew1 | refine below_set ?_ GE101.out) | exact HB.out))) : w.heap.size ≤ gb102)); have n4_ := Aside0.mk ((by rw [hg]; exact (below_size (by repeat (first | (with_reducible first | exact HB.out | apply below_alloc | apply pw_below_drewN | apply below_drew1 | refine below_set ?_ GE101.out) | exact HB.out))) : w.heap.size ≤ gb102)); have n5_ := Aside0.mk ((by rw [hg]; exact Nat.ne_of_lt (blk_lt (g := gb101) (o := .cells #[.string a0_0, .string a0_1, .int .u8 a0_2, .int .i64 a0_3, .int .i64 a0_4, .int .i64 a0_5, .int .i64 a0_6, .string a0_7] 102 (0, 0)) (by (with_reducible repeat (first | refine blk_drewN ?_ _ | refine blk_drew ?_ | refine blk_alloc ?_ _)); exact BK101.out)) : gb101 ≠ gb102)); have n6_ := Aside0.mk ((by rw [hg]; exact Nat.ne_of_gt (blk_lt (g := gb101) (o := .cells #[.string a0_0, .string a0_1, .int .u8 a0_2, .int .i64 a0_3, .int .i64 a0_4, .int .i64 a0_5, .int .i64 a0_6, .string a0_7] 102 (0, 0)) (by (with_reducible repeat (first | refine blk_drewN ?_ _ | refine blk_drew ?_ | refine blk_alloc ?_ _)); exact BK101.out)) : gb102 ≠ gb101)); clear BK101; clear HB; have BK101 := n0_; have HB := n1_; have BK102 := n2_; have GW102 := n3_; have GE102 := n4_; have NB101_102 := n5_; have NB102_101 := n6_; clear n0_ n1_ n2_ n3_ n4_ n5_ n6_; clear hb hbox hg; have hnb5 := NB101_102.out; have hnc5 := NB102_101.out; have hcz6_0 : w4.cell? ⟨gb101, 0, none⟩ = some (.string a0_0) := (blk_cell BK101.out 0).trans rfl; have hcz6_1 : w4.cell? ⟨gb101, 1, none⟩ = some (.string a0_1) := (blk_cell BK101.out 1).trans rfl; have hcz6_2 : w4.cell? ⟨gb101, 2, none⟩ = some (.int .u8 a0_2) := (blk_cell BK101.out 2).trans rfl; have hcz6_3 : w4.cell? ⟨gb101, 3, none⟩ = some (.int .i64 a0_3) := (blk_cell BK101.out 3).trans rfl; have hcz6_4 : w4.cell? ⟨gb101, 4, none⟩ = some (.int .i64 a0_4) := (blk_cell BK101.out 4).trans rfl; have hcz6_5 : w4.cell? ⟨gb101, 5, none⟩ = some (.int .i64 a0_5) := (blk_cell BK101.out 5).trans rfl; have hcz6_6 : w4.cell? ⟨gb101, 6, none⟩ = some (.int .i64 a0_6) := (blk_cell BK101.out 6).trans rfl; have hcz6_7 : w4.cell? ⟨gb101, 7, none⟩ = some (.string a0_7) := (blk_cell BK101.out 7).trans rfl; have hfz6_0 := blk_frozen BK101.out 0; have hfz6_1 := blk_frozen BK101.out 1; have hfz6_2 := blk_frozen BK101.out 2; have hfz6_3 := blk_frozen BK101.out 3; have hfz6_4 := blk_frozen BK101.out 4; have hfz6_5 := blk_frozen BK101.out 5; have hfz6_6 := blk_frozen BK101.out 6; have hfz6_7 := blk_frozen BK101.out 7) | ((with_reducible refine gate_callee (f := 110) rfl ?_); refine goesL_ (some 9) rfl rfl Tryz.func110 (by kernel_rfl) rfl #[.agg #[.string a0_0, .string a0_1, .int .u8 a0_2, .int .i64 a0_3, .int .i64 a0_4, .int .i64 a0_5, .int .i64 a0_6, .string a0_7]] rfl (by (try simp only [List.map_toArray, List.map_cons, List.map_nil]); first | done | rfl | (simp only [List.length_drop, List.length_take]; rfl)) ?_; (with_reducible refine (long_Names.calls a0_0 a0_1 a0_2 a0_3 a0_4 a0_5 a0_6 a0_7 t103 t104 t105 _ A2.out).mono ?_); rintro e w7 ⟨rfl, hb⟩; refine ⟨_, rfl, ?_⟩; have n0_ := Aside0.mk (blk_below (g := gb101) (o := .cells #[.string a0_0, .string a0_1, .int .u8 a0_2, .int .i64 a0_3, .int .i64 a0_4, .int .i64 a0_5, .int .i64 a0_6, .string a0_7] 102 (0, 0)) (by (with_reducible repeat (first | refine blk_drewN ?_ _ | refine blk_drew ?_ | refine blk_alloc ?_ _)); exact BK101.out) hb); have n1_ := Aside0.mk (blk_below (g := gb102) (o := .cells #[.string (⟨#[]⟩ : ByteArray), .string (⟨#[]⟩ : ByteArray), .string (⟨#[]⟩ : ByteArray), .int .i64 0, .int .i64 0, .int .i64 0, .int .i64 0, .int .i64 0, .int .u8 0, .int .i64 0, .int .i64 0] 83 (0, 0)) (by (with_reducible repeat (first | refine blk_drewN ?_ _ | refine blk_drew ?_ | refine blk_alloc ?_ _)); exact BK102.out) hb); have n2_ := Aside0.mk (below_step (by repeat (first | (with_reducible first | exact HB.out | apply below_alloc | apply pw_below_drewN | apply below_drew1 | refine below_set ?_ GE101.out | refine below_set ?_ GE102.out) | exact HB.out)) hb); clear BK101; clear BK102; clear HB; have BK101 := n0_; have BK102 := n1_; have HB := n2_; clear n0_ n1_ n2_; (try clear hb); (try clear hb2); (try clear hk); (try clear hi); have hcz8_0 : w7.cell? ⟨gb101, 0, none⟩ = some (.string a0_0) := (blk_cell BK101.out 0).trans rfl; have hcz8_1 : w7.cell? ⟨gb101, 1, none⟩ = some (.string a0_1) := (blk_cell BK101.out 1).trans rfl; have hcz8_2 : w7.cell? ⟨gb101, 2, none⟩ = some (.int .u8 a0_2) := (blk_cell BK101.out 2).trans rfl; have hcz8_3 : w7.cell? ⟨gb101, 3, none⟩ = some (.int .i64 a0_3) := (blk_cell BK101.out 3).trans rfl; have hcz8_4 : w7.cell? ⟨gb101, 4, none⟩ = some (.int .i64 a0_4) := (blk_cell BK101.out 4).trans rfl; have hcz8_5 : w7.cell? ⟨gb101, 5, none⟩ = some (.int .i64 a0_5) := (blk_cell BK101.out 5).trans rfl; have hcz8_6 : w7.cell? ⟨gb101, 6, none⟩ = some (.int .i64 a0_6) := (blk_cell BK101.out 6).trans rfl; have hcz8_7 : w7.cell? ⟨gb101, 7, none⟩ = some (.string a0_7) := (blk_cell BK101.out 7).trans rfl; have hfz8_0 := blk_frozen BK101.out 0; have hfz8_1 := blk_frozen BK101.out 1; have hfz8_2 := blk_frozen BK101.out 2; have hfz8_3 := blk_frozen BK101.out 3; have hfz8_4 := blk_frozen BK101.out 4; have hfz8_5 := blk_frozen BK101.out 5; have hfz8_6 := blk_frozen BK101.out 6; have hfz8_7 := blk_frozen BK101.out 7; have hcz9_0 : w7.cell? ⟨gb102, 0, none⟩ = some (.string (⟨#[]⟩ : ByteArray)) := (blk_cell BK102.out 0).trans rfl; have hcz9_1 : w7.cell? ⟨gb102, 1, none⟩ = some (.string (⟨#[]⟩ : ByteArray)) := (blk_cell BK102.out 1).trans rfl; have hcz9_2 : w7.cell? ⟨gb102, 2, none⟩ = some (.string (⟨#[]⟩ : ByteArray)) := (blk_cell BK102.out 2).trans rfl; have hcz9_3 : w7.cell? ⟨gb102, 3, none⟩ = some (.int .i64 0) := (blk_cell BK102.out 3).trans rfl; have hcz9_4 : w7.cell? ⟨gb102, 4, none⟩ = some (.int .i64 0) := (blk_cell BK102.out 4).trans rfl; have hcz9_5 : w7.cell? ⟨gb102, 5, none⟩ = some (.int .i64 0) := (blk_cell BK102.out 5).trans rfl; have hcz9_6 : w7.cell? ⟨gb102, 6, none⟩ = some (.int .i64 0) := (blk_cell BK102.out 6).trans rfl; have hcz9_7 : w7.cell? ⟨gb102, 7, none⟩ = some (.int .i64 0) := (blk_cell BK102.out 7).trans rfl; have hcz9_8 : w7.cell? ⟨gb102, 8, none⟩ = some (.int .u8 0) := (blk_cell BK102.out 8).trans rfl; have hcz9_9 : w7.cell? ⟨gb102, 9, none⟩ = some (.int .i64 0) := (blk_cell BK102.out 9).trans rfl; have hcz9_10 : w7.cell? ⟨gb102, 10, none⟩ = some (.int .i64 0) := (blk_cell BK102.out 10).trans rfl; have hfz9_0 := blk_frozen BK102.out 0; have hfz9_1 := blk_frozen BK102.out 1; have hfz9_2 := blk_frozen BK102.out 2; have hfz9_3 := blk_frozen BK102.out 3; have hfz9_4 := blk_frozen BK102.out 4; have hfz9_5 := blk_frozen BK102.out 5; have hfz9_6 := blk_frozen BK102.out 6; have hfz9_7 := blk_frozen BK102.out 7; have hfz9_8 := blk_frozen BK102.out 8; have hfz9_9 := blk_frozen BK102.out 9; have hfz9_10 := blk_frozen BK102.out 10))
  refine bodyPost_ret (results_cell_row rfl _ _ gb102 83 #[.string t103, .string t104, .string t105, .int .i64 a0_3, .int .i64 a0_4, .int .i64 a0_5, .int .i64 (a0_7.size : Int), .int .i64 a0_6, .int .u8 a0_2, .int .i64 0, .int .i64 0] (0, 0) _ rfl (by (with_reducible repeat (first | refine blk_drewN ?_ _ | refine blk_drew ?_ | refine blk_alloc ?_ _)); refine blk_put (cs := #[.string t103, .string t104, .string t105, .int .i64 a0_3, .int .i64 a0_4, .int .i64 a0_5, .int .i64 (a0_7.size : Int), .int .i64 a0_6, .int .u8 a0_2, .int .i64 0, .int .i64 0]) ?_ 10 _ rfl; (with_reducible repeat (first | refine blk_drewN ?_ _ | refine blk_drew ?_ | refine blk_alloc ?_ _)); refine blk_put (cs := #[.string t103, .string t104, .string t105, .int .i64 a0_3, .int .i64 a0_4, .int .i64 a0_5, .int .i64 (a0_7.size : Int), .int .i64 a0_6, .int .u8 a0_2, .int .i64 0, .int .i64 0]) ?_ 9 _ rfl; (with_reducible repeat (first | refine blk_drewN ?_ _ | refine blk_drew ?_ | refine blk_alloc ?_ _)); refine blk_put (cs := #[.string t103, .string t104, .string t105, .int .i64 a0_3, .int .i64 a0_4, .int .i64 a0_5, .int .i64 (a0_7.size : Int), .int .i64 a0_6, .int .u8 0, .int .i64 0, .int .i64 0]) ?_ 8 _ rfl; (with_reducible repeat (first | refine blk_drewN ?_ _ | refine blk_drew ?_ | refine blk_alloc ?_ _)); refine blk_put (cs := #[.string t103, .string t104, .string t105, .int .i64 a0_3, .int .i64 a0_4, .int .i64 a0_5, .int .i64 (a0_7.size : Int), .int .i64 0, .int .u8 0, .int .i64 0, .int .i64 0]) ?_ 7 _ rfl; (with_reducible repeat (first | refine blk_drewN ?_ _ | refine blk_drew ?_ | refine blk_alloc ?_ _)); refine blk_put (cs := #[.string t103, .string t104, .string t105, .int .i64 a0_3, .int .i64 a0_4, .int .i64 a0_5, .int .i64 0, .int .i64 0, .int .u8 0, .int .i64 0, .int .i64 0]) ?_ 6 _ rfl; (with_reducible repeat (first | refine blk_drewN ?_ _ | refine blk_drew ?_ | refine blk_alloc ?_ _)); refine blk_put (cs := #[.string t103, .string t104, .string t105, .int .i64 a0_3, .int .i64 a0_4, .int .i64 0, .int .i64 0, .int .i64 0, .int .u8 0, .int .i64 0, .int .i64 0]) ?_ 5 _ rfl; (with_reducible repeat (first | refine blk_drewN ?_ _ | refine blk_drew ?_ | refine blk_alloc ?_ _)); refine blk_put (cs := #[.string t103, .string t104, .string t105, .int .i64 a0_3, .int .i64 0, .int .i64 0, .int .i64 0, .int .i64 0, .int .u8 0, .int .i64 0, .int .i64 0]) ?_ 4 _ rfl; (with_reducible repeat (first | refine blk_drewN ?_ _ | refine blk_drew ?_ | refine blk_alloc ?_ _)); refine blk_put (cs := #[.string t103, .string t104, .string t105, .int .i64 0, .int .i64 0, .int .i64 0, .int .i64 0, .int .i64 0, .int .u8 0, .int .i64 0, .int .i64 0]) ?_ 3 _ rfl; (with_reducible repeat (first | refine blk_drewN ?_ _ | refine blk_drew ?_ | refine blk_alloc ?_ _)); refine blk_put (cs := #[.string t103, .string t104, .string (⟨#[]⟩ : ByteArray), .int .i64 0, .int .i64 0, .int .i64 0, .int .i64 0, .int .i64 0, .int .u8 0, .int .i64 0, .int .i64 0]) ?_ 2 _ rfl; (with_reducible repeat (first | refine blk_drewN ?_ _ | refine blk_drew ?_ | refine blk_alloc ?_ _)); refine blk_put (cs := #[.string t103, .string (⟨#[]⟩ : ByteArray), .string (⟨#[]⟩ : ByteArray), .int .i64 0, .int .i64 0, .int .i64 0, .int .i64 0, .int .i64 0, .int .u8 0, .int .i64 0, .int .i64 0]) ?_ 1 _ rfl; (with_reducible repeat (first | refine blk_drewN ?_ _ | refine blk_drew ?_ | refine blk_alloc ?_ _)); refine blk_put (cs := #[.string (⟨#[]⟩ : ByteArray), .string (⟨#[]⟩ : ByteArray), .string (⟨#[]⟩ : ByteArray), .int .i64 0, .int .i64 0, .int .i64 0, .int .i64 0, .int .i64 0, .int .u8 0, .int .i64 0, .int .i64 0]) ?_ 0 _ rfl; (with_reducible repeat (first | refine blk_drewN ?_ _ | refine blk_drew ?_ | refine blk_alloc ?_ _)); exact BK102.out) Tryz.underlying83 rfl (by kernel_rfl)) rfl ?_
  exact ⟨by first | rfl | (simp [errW_none, errW_some] <;> rfl) | (simp [*, errW_none, errW_some] <;> rfl), by repeat (first | (with_reducible first | exact HB.out | apply below_alloc | apply pw_below_drewN | apply below_drew1 | refine below_set ?_ GE101.out | refine below_set ?_ GE102.out) | exact HB.out)⟩
end
section
def entry_Head.f (a0_0 : ByteArray) (a0_1 : ByteArray) (a0_2 : Int) (a0_3 : Int) (a0_4 : Int) (a0_5 : Int) (a0_6 : Int) (a0_7 : ByteArray) : Option (ByteArray × ByteArray × ByteArray × Int × Int × Int × Int × Int × Int × Int × Int × Bool) := (tree_One.f a0_0 a0_1 a0_2 a0_3 a0_4 a0_5 a0_6 a0_7).bind fun t103 => (if t103 = true then ((entry_entry_head.f a0_0 a0_1 a0_2 a0_3 a0_4 a0_5 a0_6 a0_7).bind fun bt104 => (some (bt104.1, bt104.2.1, bt104.2.2.1, bt104.2.2.2.1, bt104.2.2.2.2.1, bt104.2.2.2.2.2.1, bt104.2.2.2.2.2.2.1, bt104.2.2.2.2.2.2.2.1, bt104.2.2.2.2.2.2.2.2.1, bt104.2.2.2.2.2.2.2.2.2.1, bt104.2.2.2.2.2.2.2.2.2.2, true))) else (some ((⟨#[]⟩ : ByteArray), (⟨#[]⟩ : ByteArray), (⟨#[]⟩ : ByteArray), 0, 0, 0, 0, 0, 0, 0, 0, false)))
set_option maxHeartbeats 8000000 in
set_option maxRecDepth 100000 in
theorem entry_Head.calls (a0_0 : ByteArray) (a0_1 : ByteArray) (a0_2 : Int) (a0_3 : Int) (a0_4 : Int) (a0_5 : Int) (a0_6 : Int) (a0_7 : ByteArray) (r1 : ByteArray) (r2 : ByteArray) (r3 : ByteArray) (r4 : Int) (r5 : Int) (r6 : Int) (r7 : Int) (r8 : Int) (r9 : Int) (r10 : Int) (r11 : Int) (r12 : Bool) (w : World) (h : entry_Head.f a0_0 a0_1 a0_2 a0_3 a0_4 a0_5 a0_6 a0_7 = some (r1, r2, r3, r4, r5, r6, r7, r8, r9, r10, r11, r12)) :
    Calls Tryz.prog 52 #[.agg #[.string a0_0, .string a0_1, .int .u8 a0_2, .int .i64 a0_3, .int .i64 a0_4, .int .i64 a0_5, .int .i64 a0_6, .string a0_7]] w fun e w' => e = .returned (.tuple #[.agg #[.string r1, .string r2, .string r3, .int .i64 r4, .int .i64 r5, .int .i64 r6, .int .i64 r7, .int .i64 r8, .int .u8 r9, .int .i64 r10, .int .i64 r11], .bool r12]) ∧ Below w.heap.size w w' := by
  have hu41 := Tryz.underlying41
  have hu83 := Tryz.underlying83
  have hu102 := Tryz.underlying102
  have HB := Aside0.mk (Below.refl w.heap.size w)
  have H : ((tree_One.f a0_0 a0_1 a0_2 a0_3 a0_4 a0_5 a0_6 a0_7).bind fun t103 => (if t103 = true then ((entry_entry_head.f a0_0 a0_1 a0_2 a0_3 a0_4 a0_5 a0_6 a0_7).bind fun bt104 => (some (bt104.1, bt104.2.1, bt104.2.2.1, bt104.2.2.2.1, bt104.2.2.2.2.1, bt104.2.2.2.2.2.1, bt104.2.2.2.2.2.2.1, bt104.2.2.2.2.2.2.2.1, bt104.2.2.2.2.2.2.2.2.1, bt104.2.2.2.2.2.2.2.2.2.1, bt104.2.2.2.2.2.2.2.2.2.2, true))) else (some ((⟨#[]⟩ : ByteArray), (⟨#[]⟩ : ByteArray), (⟨#[]⟩ : ByteArray), 0, 0, 0, 0, 0, 0, 0, 0, false)))) = some (r1, r2, r3, r4, r5, r6, r7, r8, r9, r10, r11, r12) := h
  clear h
  replace H := Option.bind_eq_some_iff.mp H
  obtain ⟨t103, A20, H⟩ := H
  replace H : (if t103 = true then ((entry_entry_head.f a0_0 a0_1 a0_2 a0_3 a0_4 a0_5 a0_6 a0_7).bind fun bt104 => (some (bt104.1, bt104.2.1, bt104.2.2.1, bt104.2.2.2.1, bt104.2.2.2.2.1, bt104.2.2.2.2.2.1, bt104.2.2.2.2.2.2.1, bt104.2.2.2.2.2.2.2.1, bt104.2.2.2.2.2.2.2.2.1, bt104.2.2.2.2.2.2.2.2.2.1, bt104.2.2.2.2.2.2.2.2.2.2, true))) else (some ((⟨#[]⟩ : ByteArray), (⟨#[]⟩ : ByteArray), (⟨#[]⟩ : ByteArray), 0, 0, 0, 0, 0, 0, 0, 0, false))) = some (r1, r2, r3, r4, r5, r6, r7, r8, r9, r10, r11, r12) := H
  have A2 := Aside0.mk A20
  clear A20
  by_cases c3 : t103 = true
  · subst c3
    have H1 : ((entry_entry_head.f a0_0 a0_1 a0_2 a0_3 a0_4 a0_5 a0_6 a0_7).bind fun bt104 => (some (bt104.1, bt104.2.1, bt104.2.2.1, bt104.2.2.2.1, bt104.2.2.2.2.1, bt104.2.2.2.2.2.1, bt104.2.2.2.2.2.2.1, bt104.2.2.2.2.2.2.2.1, bt104.2.2.2.2.2.2.2.2.1, bt104.2.2.2.2.2.2.2.2.2.1, bt104.2.2.2.2.2.2.2.2.2.2, true))) = some (r1, r2, r3, r4, r5, r6, r7, r8, r9, r10, r11, r12) := by rw [if_pos rfl] at H; exact H
    clear H
    have H := H1
    clear H1
    replace H := Option.bind_eq_some_iff.mp H
    obtain ⟨⟨t104, t105, t106, t107, t108, t109, t110, t111, t112, t113, t114⟩, A40, H⟩ := H
    replace H : (some (t104, t105, t106, t107, t108, t109, t110, t111, t112, t113, t114, true)) = some (r1, r2, r3, r4, r5, r6, r7, r8, r9, r10, r11, r12) := H
    have A4 := Aside0.mk A40
    clear A40
    simp only [Option.some.injEq, Prod.mk.injEq] at H
    obtain ⟨rfl, rfl, rfl, rfl, rfl, rfl, rfl, rfl, rfl, rfl, rfl, rfl⟩ := H
    go_enter Tryz.func52, Tryz.ntmps52
    go_wp2_with (first | ((with_reducible refine gate_dst (N := 1) rfl ?_); refine box_event ?hg (N := 1) ?hd (cs := #[.string a0_0, .string a0_1, .int .u8 a0_2, .int .i64 a0_3, .int .i64 a0_4, .int .i64 a0_5, .int .i64 a0_6, .string a0_7]) (t := 41) ?hr ?_; (case hd => rfl); (case hg => rfl); (case hr => first | (go_simp; done) | (go_simp; rfl)); intro gb101 hg w5 hbox hb; have n0_ := Aside0.mk (below_step (by repeat (first | (with_reducible first | exact HB.out | apply below_alloc | apply pw_below_drewN | apply below_drew1) | exact HB.out)) hb); have n1_ := Aside0.mk (hbox); have n2_ := Aside0.mk ((by rw [hg]; exact (below_size (by repeat (first | (with_reducible first | exact HB.out | apply below_alloc | apply pw_below_drewN | apply below_drew1) | exact HB.out))) : w.heap.size ≤ gb101)); have n3_ := Aside0.mk ((by rw [hg]; exact (below_size (by repeat (first | (with_reducible first | exact HB.out | apply below_alloc | apply pw_below_drewN | apply below_drew1) | exact HB.out))) : w.heap.size ≤ gb101)); clear HB; have HB := n0_; have BK101 := n1_; have GW101 := n2_; have GE101 := n3_; clear n0_ n1_ n2_ n3_; clear hb hbox hg) | ((with_reducible refine gate_dst (N := 2) rfl ?_); refine box_event ?hg (N := 2) ?hd (cs := #[.string (⟨#[]⟩ : ByteArray), .string (⟨#[]⟩ : ByteArray), .string (⟨#[]⟩ : ByteArray), .int .i64 0, .int .i64 0, .int .i64 0, .int .i64 0, .int .i64 0, .int .u8 0, .int .i64 0, .int .i64 0]) (t := 83) ?hr ?_; (case hd => rfl); (case hg => rfl); (case hr => first | (go_simp; done) | (go_simp; rfl)); intro gb102 hg w6 hbox hb; have n0_ := Aside0.mk (blk_below (g := gb101) (o := .cells #[.string a0_0, .string a0_1, .int .u8 a0_2, .int .i64 a0_3, .int .i64 a0_4, .int .i64 a0_5, .int .i64 a0_6, .string a0_7] 41 (0, 0)) (by (with_reducible repeat (first | refine blk_drewN ?_ _ | refine blk_drew ?_ | refine blk_alloc ?_ _)); exact BK101.out) hb); have n1_ := Aside0.mk (below_step (by repeat (first | (with_reducible first | exact HB.out | apply below_alloc | apply pw_below_drewN | apply below_drew1 | refine below_set ?_ GE101.out) | exact HB.out)) hb); have n2_ := Aside0.mk (hbox); have n3_ := Aside0.mk ((by rw [hg]; exact (below_size (by repeat (first | (with_reducible first | exact HB.out | apply below_alloc | apply pw_below_drewN | apply below_drew1 | refine below_set ?_ GE101.out) | exact HB.out))) : w.heap.size ≤ gb102)); have n4_ := Aside0.mk ((by rw [hg]; exact (below_size (by repeat (first | (with_reducible first | exact HB.out | apply below_alloc | apply pw_below_drewN | apply below_drew1 | refine below_set ?_ GE101.out) | exact HB.out))) : w.heap.size ≤ gb102)); have n5_ := Aside0.mk ((by rw [hg]; exact Nat.ne_of_lt (blk_lt (g := gb101) (o := .cells #[.string a0_0, .string a0_1, .int .u8 a0_2, .int .i64 a0_3, .int .i64 a0_4, .int .i64 a0_5, .int .i64 a0_6, .string a0_7] 41 (0, 0)) (by (with_reducible repeat (first | refine blk_drewN ?_ _ | refine blk_drew ?_ | refine blk_alloc ?_ _)); exact BK101.out)) : gb101 ≠ gb102)); have n6_ := Aside0.mk ((by rw [hg]; exact Nat.ne_of_gt (blk_lt (g := gb101) (o := .cells #[.string a0_0, .string a0_1, .int .u8 a0_2, .int .i64 a0_3, .int .i64 a0_4, .int .i64 a0_5, .int .i64 a0_6, .string a0_7] 41 (0, 0)) (by (with_reducible repeat (first | refine blk_drewN ?_ _ | refine blk_drew ?_ | refine blk_alloc ?_ _)); exact BK101.out)) : gb102 ≠ gb101)); clear BK101; clear HB; have BK101 := n0_; have HB := n1_; have BK102 := n2_; have GW102 := n3_; have GE102 := n4_; have NB101_102 := n5_; have NB102_101 := n6_; clear n0_ n1_ n2_ n3_ n4_ n5_ n6_; clear hb hbox hg; have hnb7 := NB101_102.out; have hnc7 := NB102_101.out; have hcz8_0 : w6.cell? ⟨gb101, 0, none⟩ = some (.string a0_0) := (blk_cell BK101.out 0).trans rfl; have hcz8_1 : w6.cell? ⟨gb101, 1, none⟩ = some (.string a0_1) := (blk_cell BK101.out 1).trans rfl; have hcz8_2 : w6.cell? ⟨gb101, 2, none⟩ = some (.int .u8 a0_2) := (blk_cell BK101.out 2).trans rfl; have hcz8_3 : w6.cell? ⟨gb101, 3, none⟩ = some (.int .i64 a0_3) := (blk_cell BK101.out 3).trans rfl; have hcz8_4 : w6.cell? ⟨gb101, 4, none⟩ = some (.int .i64 a0_4) := (blk_cell BK101.out 4).trans rfl; have hcz8_5 : w6.cell? ⟨gb101, 5, none⟩ = some (.int .i64 a0_5) := (blk_cell BK101.out 5).trans rfl; have hcz8_6 : w6.cell? ⟨gb101, 6, none⟩ = some (.int .i64 a0_6) := (blk_cell BK101.out 6).trans rfl; have hcz8_7 : w6.cell? ⟨gb101, 7, none⟩ = some (.string a0_7) := (blk_cell BK101.out 7).trans rfl; have hfz8_0 := blk_frozen BK101.out 0; have hfz8_1 := blk_frozen BK101.out 1; have hfz8_2 := blk_frozen BK101.out 2; have hfz8_3 := blk_frozen BK101.out 3; have hfz8_4 := blk_frozen BK101.out 4; have hfz8_5 := blk_frozen BK101.out 5; have hfz8_6 := blk_frozen BK101.out 6; have hfz8_7 := blk_frozen BK101.out 7) | ((with_reducible refine gate_callee (f := 30) rfl ?_); refine goesL_ (some 5) rfl rfl Tryz.func30 (by kernel_rfl) rfl #[.agg #[.string a0_0, .string a0_1, .int .u8 a0_2, .int .i64 a0_3, .int .i64 a0_4, .int .i64 a0_5, .int .i64 a0_6, .string a0_7]] rfl (by (try simp only [List.map_toArray, List.map_cons, List.map_nil]); first | done | rfl | (simp only [List.length_drop, List.length_take]; rfl)) ?_; (with_reducible refine (tree_One.calls a0_0 a0_1 a0_2 a0_3 a0_4 a0_5 a0_6 a0_7 true _ A2.out).mono ?_); rintro e w9 ⟨rfl, hb⟩; refine ⟨_, rfl, ?_⟩; have n0_ := Aside0.mk (blk_below (g := gb101) (o := .cells #[.string a0_0, .string a0_1, .int .u8 a0_2, .int .i64 a0_3, .int .i64 a0_4, .int .i64 a0_5, .int .i64 a0_6, .string a0_7] 41 (0, 0)) (by (with_reducible repeat (first | refine blk_drewN ?_ _ | refine blk_drew ?_ | refine blk_alloc ?_ _)); exact BK101.out) hb); have n1_ := Aside0.mk (blk_below (g := gb102) (o := .cells #[.string (⟨#[]⟩ : ByteArray), .string (⟨#[]⟩ : ByteArray), .string (⟨#[]⟩ : ByteArray), .int .i64 0, .int .i64 0, .int .i64 0, .int .i64 0, .int .i64 0, .int .u8 0, .int .i64 0, .int .i64 0] 83 (0, 0)) (by (with_reducible repeat (first | refine blk_drewN ?_ _ | refine blk_drew ?_ | refine blk_alloc ?_ _)); exact BK102.out) hb); have n2_ := Aside0.mk (below_step (by repeat (first | (with_reducible first | exact HB.out | apply below_alloc | apply pw_below_drewN | apply below_drew1 | refine below_set ?_ GE101.out | refine below_set ?_ GE102.out) | exact HB.out)) hb); clear BK101; clear BK102; clear HB; have BK101 := n0_; have BK102 := n1_; have HB := n2_; clear n0_ n1_ n2_; (try clear hb); (try clear hb2); (try clear hk); (try clear hi); have hcz10_0 : w9.cell? ⟨gb101, 0, none⟩ = some (.string a0_0) := (blk_cell BK101.out 0).trans rfl; have hcz10_1 : w9.cell? ⟨gb101, 1, none⟩ = some (.string a0_1) := (blk_cell BK101.out 1).trans rfl; have hcz10_2 : w9.cell? ⟨gb101, 2, none⟩ = some (.int .u8 a0_2) := (blk_cell BK101.out 2).trans rfl; have hcz10_3 : w9.cell? ⟨gb101, 3, none⟩ = some (.int .i64 a0_3) := (blk_cell BK101.out 3).trans rfl; have hcz10_4 : w9.cell? ⟨gb101, 4, none⟩ = some (.int .i64 a0_4) := (blk_cell BK101.out 4).trans rfl; have hcz10_5 : w9.cell? ⟨gb101, 5, none⟩ = some (.int .i64 a0_5) := (blk_cell BK101.out 5).trans rfl; have hcz10_6 : w9.cell? ⟨gb101, 6, none⟩ = some (.int .i64 a0_6) := (blk_cell BK101.out 6).trans rfl; have hcz10_7 : w9.cell? ⟨gb101, 7, none⟩ = some (.string a0_7) := (blk_cell BK101.out 7).trans rfl; have hfz10_0 := blk_frozen BK101.out 0; have hfz10_1 := blk_frozen BK101.out 1; have hfz10_2 := blk_frozen BK101.out 2; have hfz10_3 := blk_frozen BK101.out 3; have hfz10_4 := blk_frozen BK101.out 4; have hfz10_5 := blk_frozen BK101.out 5; have hfz10_6 := blk_frozen BK101.out 6; have hfz10_7 := blk_frozen BK101.out 7) | ((with_reducible refine gate_callee (f := 79) rfl ?_); refine goesL_ (some 10) rfl rfl Tryz.func79 (by kernel_rfl) rfl #[.agg #[.string a0_0, .string a0_1, .int .u8 a0_2, .int .i64 a0_3, .int .i64 a0_4, .int .i64 a0_5, .int .i64 a0_6, .string a0_7]] rfl (by (try simp only [List.map_toArray, List.map_cons, List.map_nil]); first | done | rfl | (simp only [List.length_drop, List.length_take]; rfl)) ?_; (with_reducible refine (entry_entry_head.calls a0_0 a0_1 a0_2 a0_3 a0_4 a0_5 a0_6 a0_7 t104 t105 t106 t107 t108 t109 t110 t111 t112 t113 t114 _ A4.out).mono ?_); rintro e w11 ⟨rfl, hb⟩; refine ⟨_, rfl, ?_⟩; have n0_ := Aside0.mk (blk_below (g := gb101) (o := .cells #[.string a0_0, .string a0_1, .int .u8 a0_2, .int .i64 a0_3, .int .i64 a0_4, .int .i64 a0_5, .int .i64 a0_6, .string a0_7] 41 (0, 0)) (by (with_reducible repeat (first | refine blk_drewN ?_ _ | refine blk_drew ?_ | refine blk_alloc ?_ _)); exact BK101.out) hb); have n1_ := Aside0.mk (blk_below (g := gb102) (o := .cells #[.string (⟨#[]⟩ : ByteArray), .string (⟨#[]⟩ : ByteArray), .string (⟨#[]⟩ : ByteArray), .int .i64 0, .int .i64 0, .int .i64 0, .int .i64 0, .int .i64 0, .int .u8 0, .int .i64 0, .int .i64 0] 83 (0, 0)) (by (with_reducible repeat (first | refine blk_drewN ?_ _ | refine blk_drew ?_ | refine blk_alloc ?_ _)); exact BK102.out) hb); have n2_ := Aside0.mk (below_step (by repeat (first | (with_reducible first | exact HB.out | apply below_alloc | apply pw_below_drewN | apply below_drew1 | refine below_set ?_ GE101.out | refine below_set ?_ GE102.out) | exact HB.out)) hb); clear BK101; clear BK102; clear HB; have BK101 := n0_; have BK102 := n1_; have HB := n2_; clear n0_ n1_ n2_; (try clear hb); (try clear hb2); (try clear hk); (try clear hi); have hcz12_0 : w11.cell? ⟨gb102, 0, none⟩ = some (.string (⟨#[]⟩ : ByteArray)) := (blk_cell BK102.out 0).trans rfl; have hcz12_1 : w11.cell? ⟨gb102, 1, none⟩ = some (.string (⟨#[]⟩ : ByteArray)) := (blk_cell BK102.out 1).trans rfl; have hcz12_2 : w11.cell? ⟨gb102, 2, none⟩ = some (.string (⟨#[]⟩ : ByteArray)) := (blk_cell BK102.out 2).trans rfl; have hcz12_3 : w11.cell? ⟨gb102, 3, none⟩ = some (.int .i64 0) := (blk_cell BK102.out 3).trans rfl; have hcz12_4 : w11.cell? ⟨gb102, 4, none⟩ = some (.int .i64 0) := (blk_cell BK102.out 4).trans rfl; have hcz12_5 : w11.cell? ⟨gb102, 5, none⟩ = some (.int .i64 0) := (blk_cell BK102.out 5).trans rfl; have hcz12_6 : w11.cell? ⟨gb102, 6, none⟩ = some (.int .i64 0) := (blk_cell BK102.out 6).trans rfl; have hcz12_7 : w11.cell? ⟨gb102, 7, none⟩ = some (.int .i64 0) := (blk_cell BK102.out 7).trans rfl; have hcz12_8 : w11.cell? ⟨gb102, 8, none⟩ = some (.int .u8 0) := (blk_cell BK102.out 8).trans rfl; have hcz12_9 : w11.cell? ⟨gb102, 9, none⟩ = some (.int .i64 0) := (blk_cell BK102.out 9).trans rfl; have hcz12_10 : w11.cell? ⟨gb102, 10, none⟩ = some (.int .i64 0) := (blk_cell BK102.out 10).trans rfl; have hfz12_0 := blk_frozen BK102.out 0; have hfz12_1 := blk_frozen BK102.out 1; have hfz12_2 := blk_frozen BK102.out 2; have hfz12_3 := blk_frozen BK102.out 3; have hfz12_4 := blk_frozen BK102.out 4; have hfz12_5 := blk_frozen BK102.out 5; have hfz12_6 := blk_frozen BK102.out 6; have hfz12_7 := blk_frozen BK102.out 7; have hfz12_8 := blk_frozen BK102.out 8; have hfz12_9 := blk_frozen BK102.out 9; have hfz12_10 := blk_frozen BK102.out 10))
    refine bodyPost_ret (results_ct rfl _ _ gb102 83 #[.string t104, .string t105, .string t106, .int .i64 t107, .int .i64 t108, .int .i64 t109, .int .i64 t110, .int .i64 t111, .int .u8 t112, .int .i64 t113, .int .i64 t114] (0, 0) _ rfl (by (with_reducible repeat (first | refine blk_drewN ?_ _ | refine blk_drew ?_ | refine blk_alloc ?_ _)); refine blk_put (cs := #[.string t104, .string t105, .string t106, .int .i64 t107, .int .i64 t108, .int .i64 t109, .int .i64 t110, .int .i64 t111, .int .u8 t112, .int .i64 t113, .int .i64 0]) ?_ 10 _ rfl; (with_reducible repeat (first | refine blk_drewN ?_ _ | refine blk_drew ?_ | refine blk_alloc ?_ _)); refine blk_put (cs := #[.string t104, .string t105, .string t106, .int .i64 t107, .int .i64 t108, .int .i64 t109, .int .i64 t110, .int .i64 t111, .int .u8 t112, .int .i64 0, .int .i64 0]) ?_ 9 _ rfl; (with_reducible repeat (first | refine blk_drewN ?_ _ | refine blk_drew ?_ | refine blk_alloc ?_ _)); refine blk_put (cs := #[.string t104, .string t105, .string t106, .int .i64 t107, .int .i64 t108, .int .i64 t109, .int .i64 t110, .int .i64 t111, .int .u8 0, .int .i64 0, .int .i64 0]) ?_ 8 _ rfl; (with_reducible repeat (first | refine blk_drewN ?_ _ | refine blk_drew ?_ | refine blk_alloc ?_ _)); refine blk_put (cs := #[.string t104, .string t105, .string t106, .int .i64 t107, .int .i64 t108, .int .i64 t109, .int .i64 t110, .int .i64 0, .int .u8 0, .int .i64 0, .int .i64 0]) ?_ 7 _ rfl; (with_reducible repeat (first | refine blk_drewN ?_ _ | refine blk_drew ?_ | refine blk_alloc ?_ _)); refine blk_put (cs := #[.string t104, .string t105, .string t106, .int .i64 t107, .int .i64 t108, .int .i64 t109, .int .i64 0, .int .i64 0, .int .u8 0, .int .i64 0, .int .i64 0]) ?_ 6 _ rfl; (with_reducible repeat (first | refine blk_drewN ?_ _ | refine blk_drew ?_ | refine blk_alloc ?_ _)); refine blk_put (cs := #[.string t104, .string t105, .string t106, .int .i64 t107, .int .i64 t108, .int .i64 0, .int .i64 0, .int .i64 0, .int .u8 0, .int .i64 0, .int .i64 0]) ?_ 5 _ rfl; (with_reducible repeat (first | refine blk_drewN ?_ _ | refine blk_drew ?_ | refine blk_alloc ?_ _)); refine blk_put (cs := #[.string t104, .string t105, .string t106, .int .i64 t107, .int .i64 0, .int .i64 0, .int .i64 0, .int .i64 0, .int .u8 0, .int .i64 0, .int .i64 0]) ?_ 4 _ rfl; (with_reducible repeat (first | refine blk_drewN ?_ _ | refine blk_drew ?_ | refine blk_alloc ?_ _)); refine blk_put (cs := #[.string t104, .string t105, .string t106, .int .i64 0, .int .i64 0, .int .i64 0, .int .i64 0, .int .i64 0, .int .u8 0, .int .i64 0, .int .i64 0]) ?_ 3 _ rfl; (with_reducible repeat (first | refine blk_drewN ?_ _ | refine blk_drew ?_ | refine blk_alloc ?_ _)); refine blk_put (cs := #[.string t104, .string t105, .string (⟨#[]⟩ : ByteArray), .int .i64 0, .int .i64 0, .int .i64 0, .int .i64 0, .int .i64 0, .int .u8 0, .int .i64 0, .int .i64 0]) ?_ 2 _ rfl; (with_reducible repeat (first | refine blk_drewN ?_ _ | refine blk_drew ?_ | refine blk_alloc ?_ _)); refine blk_put (cs := #[.string t104, .string (⟨#[]⟩ : ByteArray), .string (⟨#[]⟩ : ByteArray), .int .i64 0, .int .i64 0, .int .i64 0, .int .i64 0, .int .i64 0, .int .u8 0, .int .i64 0, .int .i64 0]) ?_ 1 _ rfl; (with_reducible repeat (first | refine blk_drewN ?_ _ | refine blk_drew ?_ | refine blk_alloc ?_ _)); refine blk_put (cs := #[.string (⟨#[]⟩ : ByteArray), .string (⟨#[]⟩ : ByteArray), .string (⟨#[]⟩ : ByteArray), .int .i64 0, .int .i64 0, .int .i64 0, .int .i64 0, .int .i64 0, .int .u8 0, .int .i64 0, .int .i64 0]) ?_ 0 _ rfl; (with_reducible repeat (first | refine blk_drewN ?_ _ | refine blk_drew ?_ | refine blk_alloc ?_ _)); exact BK102.out) Tryz.underlying83 rfl (by kernel_rfl)) rfl ?_
    exact ⟨by first | rfl | (simp [errW_none, errW_some] <;> rfl) | (simp [*, errW_none, errW_some] <;> rfl), by repeat (first | (with_reducible first | exact HB.out | apply below_alloc | apply pw_below_drewN | apply below_drew1 | refine below_set ?_ GE101.out | refine below_set ?_ GE102.out) | exact HB.out)⟩
  · replace c3 := Bool.eq_false_iff.mpr c3
    subst c3
    have H1 : (some ((⟨#[]⟩ : ByteArray), (⟨#[]⟩ : ByteArray), (⟨#[]⟩ : ByteArray), 0, 0, 0, 0, 0, 0, 0, 0, false)) = some (r1, r2, r3, r4, r5, r6, r7, r8, r9, r10, r11, r12) := by rw [if_neg (show ¬ (false = true) by decide)] at H; exact H
    clear H
    have H := H1
    clear H1
    simp only [Option.some.injEq, Prod.mk.injEq] at H
    obtain ⟨rfl, rfl, rfl, rfl, rfl, rfl, rfl, rfl, rfl, rfl, rfl, rfl⟩ := H
    go_enter Tryz.func52, Tryz.ntmps52
    go_wp2_with (first | ((with_reducible refine gate_dst (N := 1) rfl ?_); refine box_event ?hg (N := 1) ?hd (cs := #[.string a0_0, .string a0_1, .int .u8 a0_2, .int .i64 a0_3, .int .i64 a0_4, .int .i64 a0_5, .int .i64 a0_6, .string a0_7]) (t := 41) ?hr ?_; (case hd => rfl); (case hg => rfl); (case hr => first | (go_simp; done) | (go_simp; rfl)); intro gb101 hg w13 hbox hb; have n0_ := Aside0.mk (below_step (by repeat (first | (with_reducible first | exact HB.out | apply below_alloc | apply pw_below_drewN | apply below_drew1) | exact HB.out)) hb); have n1_ := Aside0.mk (hbox); have n2_ := Aside0.mk ((by rw [hg]; exact (below_size (by repeat (first | (with_reducible first | exact HB.out | apply below_alloc | apply pw_below_drewN | apply below_drew1) | exact HB.out))) : w.heap.size ≤ gb101)); have n3_ := Aside0.mk ((by rw [hg]; exact (below_size (by repeat (first | (with_reducible first | exact HB.out | apply below_alloc | apply pw_below_drewN | apply below_drew1) | exact HB.out))) : w.heap.size ≤ gb101)); clear HB; have HB := n0_; have BK101 := n1_; have GW101 := n2_; have GE101 := n3_; clear n0_ n1_ n2_ n3_; clear hb hbox hg) | ((with_reducible refine gate_dst (N := 2) rfl ?_); refine box_event ?hg (N := 2) ?hd (cs := #[.string (⟨#[]⟩ : ByteArray), .string (⟨#[]⟩ : ByteArray), .string (⟨#[]⟩ : ByteArray), .int .i64 0, .int .i64 0, .int .i64 0, .int .i64 0, .int .i64 0, .int .u8 0, .int .i64 0, .int .i64 0]) (t := 83) ?hr ?_; (case hd => rfl); (case hg => rfl); (case hr => first | (go_simp; done) | (go_simp; rfl)); intro gb102 hg w14 hbox hb; have n0_ := Aside0.mk (blk_below (g := gb101) (o := .cells #[.string a0_0, .string a0_1, .int .u8 a0_2, .int .i64 a0_3, .int .i64 a0_4, .int .i64 a0_5, .int .i64 a0_6, .string a0_7] 41 (0, 0)) (by (with_reducible repeat (first | refine blk_drewN ?_ _ | refine blk_drew ?_ | refine blk_alloc ?_ _)); exact BK101.out) hb); have n1_ := Aside0.mk (below_step (by repeat (first | (with_reducible first | exact HB.out | apply below_alloc | apply pw_below_drewN | apply below_drew1 | refine below_set ?_ GE101.out) | exact HB.out)) hb); have n2_ := Aside0.mk (hbox); have n3_ := Aside0.mk ((by rw [hg]; exact (below_size (by repeat (first | (with_reducible first | exact HB.out | apply below_alloc | apply pw_below_drewN | apply below_drew1 | refine below_set ?_ GE101.out) | exact HB.out))) : w.heap.size ≤ gb102)); have n4_ := Aside0.mk ((by rw [hg]; exact (below_size (by repeat (first | (with_reducible first | exact HB.out | apply below_alloc | apply pw_below_drewN | apply below_drew1 | refine below_set ?_ GE101.out) | exact HB.out))) : w.heap.size ≤ gb102)); have n5_ := Aside0.mk ((by rw [hg]; exact Nat.ne_of_lt (blk_lt (g := gb101) (o := .cells #[.string a0_0, .string a0_1, .int .u8 a0_2, .int .i64 a0_3, .int .i64 a0_4, .int .i64 a0_5, .int .i64 a0_6, .string a0_7] 41 (0, 0)) (by (with_reducible repeat (first | refine blk_drewN ?_ _ | refine blk_drew ?_ | refine blk_alloc ?_ _)); exact BK101.out)) : gb101 ≠ gb102)); have n6_ := Aside0.mk ((by rw [hg]; exact Nat.ne_of_gt (blk_lt (g := gb101) (o := .cells #[.string a0_0, .string a0_1, .int .u8 a0_2, .int .i64 a0_3, .int .i64 a0_4, .int .i64 a0_5, .int .i64 a0_6, .string a0_7] 41 (0, 0)) (by (with_reducible repeat (first | refine blk_drewN ?_ _ | refine blk_drew ?_ | refine blk_alloc ?_ _)); exact BK101.out)) : gb102 ≠ gb101)); clear BK101; clear HB; have BK101 := n0_; have HB := n1_; have BK102 := n2_; have GW102 := n3_; have GE102 := n4_; have NB101_102 := n5_; have NB102_101 := n6_; clear n0_ n1_ n2_ n3_ n4_ n5_ n6_; clear hb hbox hg; have hnb15 := NB101_102.out; have hnc15 := NB102_101.out; have hcz16_0 : w14.cell? ⟨gb101, 0, none⟩ = some (.string a0_0) := (blk_cell BK101.out 0).trans rfl; have hcz16_1 : w14.cell? ⟨gb101, 1, none⟩ = some (.string a0_1) := (blk_cell BK101.out 1).trans rfl; have hcz16_2 : w14.cell? ⟨gb101, 2, none⟩ = some (.int .u8 a0_2) := (blk_cell BK101.out 2).trans rfl; have hcz16_3 : w14.cell? ⟨gb101, 3, none⟩ = some (.int .i64 a0_3) := (blk_cell BK101.out 3).trans rfl; have hcz16_4 : w14.cell? ⟨gb101, 4, none⟩ = some (.int .i64 a0_4) := (blk_cell BK101.out 4).trans rfl; have hcz16_5 : w14.cell? ⟨gb101, 5, none⟩ = some (.int .i64 a0_5) := (blk_cell BK101.out 5).trans rfl; have hcz16_6 : w14.cell? ⟨gb101, 6, none⟩ = some (.int .i64 a0_6) := (blk_cell BK101.out 6).trans rfl; have hcz16_7 : w14.cell? ⟨gb101, 7, none⟩ = some (.string a0_7) := (blk_cell BK101.out 7).trans rfl; have hfz16_0 := blk_frozen BK101.out 0; have hfz16_1 := blk_frozen BK101.out 1; have hfz16_2 := blk_frozen BK101.out 2; have hfz16_3 := blk_frozen BK101.out 3; have hfz16_4 := blk_frozen BK101.out 4; have hfz16_5 := blk_frozen BK101.out 5; have hfz16_6 := blk_frozen BK101.out 6; have hfz16_7 := blk_frozen BK101.out 7) | ((with_reducible refine gate_callee (f := 30) rfl ?_); refine goesL_ (some 5) rfl rfl Tryz.func30 (by kernel_rfl) rfl #[.agg #[.string a0_0, .string a0_1, .int .u8 a0_2, .int .i64 a0_3, .int .i64 a0_4, .int .i64 a0_5, .int .i64 a0_6, .string a0_7]] rfl (by (try simp only [List.map_toArray, List.map_cons, List.map_nil]); first | done | rfl | (simp only [List.length_drop, List.length_take]; rfl)) ?_; (with_reducible refine (tree_One.calls a0_0 a0_1 a0_2 a0_3 a0_4 a0_5 a0_6 a0_7 false _ A2.out).mono ?_); rintro e w17 ⟨rfl, hb⟩; refine ⟨_, rfl, ?_⟩; have n0_ := Aside0.mk (blk_below (g := gb101) (o := .cells #[.string a0_0, .string a0_1, .int .u8 a0_2, .int .i64 a0_3, .int .i64 a0_4, .int .i64 a0_5, .int .i64 a0_6, .string a0_7] 41 (0, 0)) (by (with_reducible repeat (first | refine blk_drewN ?_ _ | refine blk_drew ?_ | refine blk_alloc ?_ _)); exact BK101.out) hb); have n1_ := Aside0.mk (blk_below (g := gb102) (o := .cells #[.string (⟨#[]⟩ : ByteArray), .string (⟨#[]⟩ : ByteArray), .string (⟨#[]⟩ : ByteArray), .int .i64 0, .int .i64 0, .int .i64 0, .int .i64 0, .int .i64 0, .int .u8 0, .int .i64 0, .int .i64 0] 83 (0, 0)) (by (with_reducible repeat (first | refine blk_drewN ?_ _ | refine blk_drew ?_ | refine blk_alloc ?_ _)); exact BK102.out) hb); have n2_ := Aside0.mk (below_step (by repeat (first | (with_reducible first | exact HB.out | apply below_alloc | apply pw_below_drewN | apply below_drew1 | refine below_set ?_ GE101.out | refine below_set ?_ GE102.out) | exact HB.out)) hb); clear BK101; clear BK102; clear HB; have BK101 := n0_; have BK102 := n1_; have HB := n2_; clear n0_ n1_ n2_; (try clear hb); (try clear hb2); (try clear hk); (try clear hi); have hcz18_0 : w17.cell? ⟨gb102, 0, none⟩ = some (.string (⟨#[]⟩ : ByteArray)) := (blk_cell BK102.out 0).trans rfl; have hcz18_1 : w17.cell? ⟨gb102, 1, none⟩ = some (.string (⟨#[]⟩ : ByteArray)) := (blk_cell BK102.out 1).trans rfl; have hcz18_2 : w17.cell? ⟨gb102, 2, none⟩ = some (.string (⟨#[]⟩ : ByteArray)) := (blk_cell BK102.out 2).trans rfl; have hcz18_3 : w17.cell? ⟨gb102, 3, none⟩ = some (.int .i64 0) := (blk_cell BK102.out 3).trans rfl; have hcz18_4 : w17.cell? ⟨gb102, 4, none⟩ = some (.int .i64 0) := (blk_cell BK102.out 4).trans rfl; have hcz18_5 : w17.cell? ⟨gb102, 5, none⟩ = some (.int .i64 0) := (blk_cell BK102.out 5).trans rfl; have hcz18_6 : w17.cell? ⟨gb102, 6, none⟩ = some (.int .i64 0) := (blk_cell BK102.out 6).trans rfl; have hcz18_7 : w17.cell? ⟨gb102, 7, none⟩ = some (.int .i64 0) := (blk_cell BK102.out 7).trans rfl; have hcz18_8 : w17.cell? ⟨gb102, 8, none⟩ = some (.int .u8 0) := (blk_cell BK102.out 8).trans rfl; have hcz18_9 : w17.cell? ⟨gb102, 9, none⟩ = some (.int .i64 0) := (blk_cell BK102.out 9).trans rfl; have hcz18_10 : w17.cell? ⟨gb102, 10, none⟩ = some (.int .i64 0) := (blk_cell BK102.out 10).trans rfl; have hfz18_0 := blk_frozen BK102.out 0; have hfz18_1 := blk_frozen BK102.out 1; have hfz18_2 := blk_frozen BK102.out 2; have hfz18_3 := blk_frozen BK102.out 3; have hfz18_4 := blk_frozen BK102.out 4; have hfz18_5 := blk_frozen BK102.out 5; have hfz18_6 := blk_frozen BK102.out 6; have hfz18_7 := blk_frozen BK102.out 7; have hfz18_8 := blk_frozen BK102.out 8; have hfz18_9 := blk_frozen BK102.out 9; have hfz18_10 := blk_frozen BK102.out 10))
    refine bodyPost_ret (results_ct rfl _ _ gb102 83 #[.string (⟨#[]⟩ : ByteArray), .string (⟨#[]⟩ : ByteArray), .string (⟨#[]⟩ : ByteArray), .int .i64 0, .int .i64 0, .int .i64 0, .int .i64 0, .int .i64 0, .int .u8 0, .int .i64 0, .int .i64 0] (0, 0) _ rfl (by (with_reducible repeat (first | refine blk_drewN ?_ _ | refine blk_drew ?_ | refine blk_alloc ?_ _)); refine blk_put (cs := #[.string (⟨#[]⟩ : ByteArray), .string (⟨#[]⟩ : ByteArray), .string (⟨#[]⟩ : ByteArray), .int .i64 0, .int .i64 0, .int .i64 0, .int .i64 0, .int .i64 0, .int .u8 0, .int .i64 0, .int .i64 0]) ?_ 10 _ rfl; (with_reducible repeat (first | refine blk_drewN ?_ _ | refine blk_drew ?_ | refine blk_alloc ?_ _)); refine blk_put (cs := #[.string (⟨#[]⟩ : ByteArray), .string (⟨#[]⟩ : ByteArray), .string (⟨#[]⟩ : ByteArray), .int .i64 0, .int .i64 0, .int .i64 0, .int .i64 0, .int .i64 0, .int .u8 0, .int .i64 0, .int .i64 0]) ?_ 9 _ rfl; (with_reducible repeat (first | refine blk_drewN ?_ _ | refine blk_drew ?_ | refine blk_alloc ?_ _)); refine blk_put (cs := #[.string (⟨#[]⟩ : ByteArray), .string (⟨#[]⟩ : ByteArray), .string (⟨#[]⟩ : ByteArray), .int .i64 0, .int .i64 0, .int .i64 0, .int .i64 0, .int .i64 0, .int .u8 0, .int .i64 0, .int .i64 0]) ?_ 8 _ rfl; (with_reducible repeat (first | refine blk_drewN ?_ _ | refine blk_drew ?_ | refine blk_alloc ?_ _)); refine blk_put (cs := #[.string (⟨#[]⟩ : ByteArray), .string (⟨#[]⟩ : ByteArray), .string (⟨#[]⟩ : ByteArray), .int .i64 0, .int .i64 0, .int .i64 0, .int .i64 0, .int .i64 0, .int .u8 0, .int .i64 0, .int .i64 0]) ?_ 7 _ rfl; (with_reducible repeat (first | refine blk_drewN ?_ _ | refine blk_drew ?_ | refine blk_alloc ?_ _)); refine blk_put (cs := #[.string (⟨#[]⟩ : ByteArray), .string (⟨#[]⟩ : ByteArray), .string (⟨#[]⟩ : ByteArray), .int .i64 0, .int .i64 0, .int .i64 0, .int .i64 0, .int .i64 0, .int .u8 0, .int .i64 0, .int .i64 0]) ?_ 6 _ rfl; (with_reducible repeat (first | refine blk_drewN ?_ _ | refine blk_drew ?_ | refine blk_alloc ?_ _)); refine blk_put (cs := #[.string (⟨#[]⟩ : ByteArray), .string (⟨#[]⟩ : ByteArray), .string (⟨#[]⟩ : ByteArray), .int .i64 0, .int .i64 0, .int .i64 0, .int .i64 0, .int .i64 0, .int .u8 0, .int .i64 0, .int .i64 0]) ?_ 5 _ rfl; (with_reducible repeat (first | refine blk_drewN ?_ _ | refine blk_drew ?_ | refine blk_alloc ?_ _)); refine blk_put (cs := #[.string (⟨#[]⟩ : ByteArray), .string (⟨#[]⟩ : ByteArray), .string (⟨#[]⟩ : ByteArray), .int .i64 0, .int .i64 0, .int .i64 0, .int .i64 0, .int .i64 0, .int .u8 0, .int .i64 0, .int .i64 0]) ?_ 4 _ rfl; (with_reducible repeat (first | refine blk_drewN ?_ _ | refine blk_drew ?_ | refine blk_alloc ?_ _)); refine blk_put (cs := #[.string (⟨#[]⟩ : ByteArray), .string (⟨#[]⟩ : ByteArray), .string (⟨#[]⟩ : ByteArray), .int .i64 0, .int .i64 0, .int .i64 0, .int .i64 0, .int .i64 0, .int .u8 0, .int .i64 0, .int .i64 0]) ?_ 3 _ rfl; (with_reducible repeat (first | refine blk_drewN ?_ _ | refine blk_drew ?_ | refine blk_alloc ?_ _)); refine blk_put (cs := #[.string (⟨#[]⟩ : ByteArray), .string (⟨#[]⟩ : ByteArray), .string (⟨#[]⟩ : ByteArray), .int .i64 0, .int .i64 0, .int .i64 0, .int .i64 0, .int .i64 0, .int .u8 0, .int .i64 0, .int .i64 0]) ?_ 2 _ rfl; (with_reducible repeat (first | refine blk_drewN ?_ _ | refine blk_drew ?_ | refine blk_alloc ?_ _)); refine blk_put (cs := #[.string (⟨#[]⟩ : ByteArray), .string (⟨#[]⟩ : ByteArray), .string (⟨#[]⟩ : ByteArray), .int .i64 0, .int .i64 0, .int .i64 0, .int .i64 0, .int .i64 0, .int .u8 0, .int .i64 0, .int .i64 0]) ?_ 1 _ rfl; (with_reducible repeat (first | refine blk_drewN ?_ _ | refine blk_drew ?_ | refine blk_alloc ?_ _)); refine blk_put (cs := #[.string (⟨#[]⟩ : ByteArray), .string (⟨#[]⟩ : ByteArray), .string (⟨#[]⟩ : ByteArray), .int .i64 0, .int .i64 0, .int .i64 0, .int .i64 0, .int .i64 0, .int .u8 0, .int .i64 0, .int .i64 0]) ?_ 0 _ rfl; (with_reducible repeat (first | refine blk_drewN ?_ _ | refine blk_drew ?_ | refine blk_alloc ?_ _)); exact BK102.out) Tryz.underlying83 rfl (by kernel_rfl)) rfl ?_
    exact ⟨by first | rfl | (simp [errW_none, errW_some] <;> rfl) | (simp [*, errW_none, errW_some] <;> rfl), by repeat (first | (with_reducible first | exact HB.out | apply below_alloc | apply pw_below_drewN | apply below_drew1 | refine below_set ?_ GE101.out | refine below_set ?_ GE102.out) | exact HB.out)⟩
end
section
open Go.Proofs.YtpedagpcblnnhaaGreatY
def entry_Put.f (a0 a1 : ByteArray) (a2 a3 a4 a5 a6 : Int) (a7 : ByteArray) : Option (List (List Int) × Bool) :=
  (entry_Head.f a0 a1 a2 a3 a4 a5 a6 a7).bind fun h => if h.2.2.2.2.2.2.2.2.2.2.2 = true then
    (head_Put.f h.1 h.2.1 h.2.2.1 h.2.2.2.1 h.2.2.2.2.1 h.2.2.2.2.2.1 h.2.2.2.2.2.2.1 h.2.2.2.2.2.2.2.1 h.2.2.2.2.2.2.2.2.1 h.2.2.2.2.2.2.2.2.2.1 h.2.2.2.2.2.2.2.2.2.2.1).bind fun b =>
      (long_Ahead.f a0 a1 a2 a3 a4 a5 a6 a7).bind fun x => (block_Cut.f a7).bind fun c => if x.length + (1 + c.length) ≤ 100000 then some (x ++ b.1 :: c, true) else none
    else some ([], false)
set_option maxHeartbeats 3200000 in
set_option maxRecDepth 100000 in
theorem entry_Put.calls (a0 a1 : ByteArray) (a2 a3 a4 a5 a6 : Int) (a7 : ByteArray) (r1 : List (List Int)) (r2 : Bool) (w : World) (h : entry_Put.f a0 a1 a2 a3 a4 a5 a6 a7 = some (r1, r2)) :
    Calls Tryz.prog 33 #[.agg #[.string a0, .string a1, .int .u8 a2, .int .i64 a3, .int .i64 a4, .int .i64 a5, .int .i64 a6, .string a7]] w fun e w' => ∃ v0_ : Value, e = .returned (.tuple #[v0_, .bool r2]) ∧ Kd.R kRow 43 w' w.heap.size (fun _ => True) v0_ r1 ∧ Below w.heap.size w w' := by
  unfold entry_Put.f at h
  replace h := Option.bind_eq_some_iff.1 h
  obtain ⟨⟨h0, h1, h2, h3, h4, h5, h6, h7, h8, h9, h10, is⟩, A1, h⟩ := h
  have hhead := fun W => entry_Head.calls a0 a1 a2 a3 a4 a5 a6 a7 h0 h1 h2 h3 h4 h5 h6 h7 h8 h9 h10 is W A1
  clear A1
  cases is with
  | false =>
    simp only at h
    rw [if_neg (by decide)] at h
    obtain ⟨rfl, rfl⟩ := Prod.mk.inj (Option.some.inj h)
    have HB0 := Aside0.mk (Below.refl w.heap.size w)
    have HB0 := Aside0.mk (below_alloc HB0.out (.cells #[.string a0, .string a1, .int .u8 a2, .int .i64 a3, .int .i64 a4, .int .i64 a5, .int .i64 a6, .string a7] 41))
    have HXn_0 := Aside0.mk (heap_alloc_new w (.cells #[.string a0, .string a1, .int .u8 a2, .int .i64 a3, .int .i64 a4, .int .i64 a5, .int .i64 a6, .string a7] 41))
    go_enter Tryz.func33, Tryz.ntmps33
    go_wp2_with (first | (go_at_call 52; refine (hhead _).mono ?_; rintro e w1 ⟨rfl, hb⟩; have HB1 := Aside0.mk (below_alloc (below_step HB0.out hb) (.cells #[.string h0, .string h1, .string h2, .int .i64 h3, .int .i64 h4, .int .i64 h5, .int .i64 h6, .int .i64 h7, .int .u8 h8, .int .i64 h9, .int .i64 h10] 83)); have HXn_1 := Aside0.mk (blk_alloc (blk_below HXn_0.out hb) (.cells #[.string h0, .string h1, .string h2, .int .i64 h3, .int .i64 h4, .int .i64 h5, .int .i64 h6, .int .i64 h7, .int .u8 h8, .int .i64 h9, .int .i64 h10] 83)); have HXh_1 := Aside0.mk (heap_alloc_new w1 (.cells #[.string h0, .string h1, .string h2, .int .i64 h3, .int .i64 h4, .int .i64 h5, .int .i64 h6, .int .i64 h7, .int .u8 h8, .int .i64 h9, .int .i64 h10] 83)); clear hb; have zh0_1 := (blk_cell HXh_1.out 0).trans (show _ = some (Value.string h0) from rfl); have zh1_1 := (blk_cell HXh_1.out 1).trans (show _ = some (Value.string h1) from rfl); have zh2_1 := (blk_cell HXh_1.out 2).trans (show _ = some (Value.string h2) from rfl); have zh3_1 := (blk_cell HXh_1.out 3).trans (show _ = some (Value.int .i64 h3) from rfl); have zh4_1 := (blk_cell HXh_1.out 4).trans (show _ = some (Value.int .i64 h4) from rfl); have zh5_1 := (blk_cell HXh_1.out 5).trans (show _ = some (Value.int .i64 h5) from rfl); have zh6_1 := (blk_cell HXh_1.out 6).trans (show _ = some (Value.int .i64 h6) from rfl); have zh7_1 := (blk_cell HXh_1.out 7).trans (show _ = some (Value.int .i64 h7) from rfl); have zh8_1 := (blk_cell HXh_1.out 8).trans (show _ = some (Value.int .u8 h8) from rfl); have zh9_1 := (blk_cell HXh_1.out 9).trans (show _ = some (Value.int .i64 h9) from rfl); have zh10_1 := (blk_cell HXh_1.out 10).trans (show _ = some (Value.int .i64 h10) from rfl)))
    go_ret2
    exact ⟨_, rfl, Kd.R_nil _ _ _ _ _, HB1.out⟩
  | true =>
  simp only at h
  rw [if_pos trivial] at h
  replace h := Option.bind_eq_some_iff.1 h
  obtain ⟨⟨hb0, ok0⟩, A2, h⟩ := h
  replace h := Option.bind_eq_some_iff.1 h
  obtain ⟨ah, A3, h⟩ := h
  replace h := Option.bind_eq_some_iff.1 h
  obtain ⟨cu, A4, h⟩ := h
  have hlen0 : ah.length + (1 + cu.length) ≤ 100000 := by
    rcases Nat.lt_or_ge 100000 (ah.length + (1 + cu.length)) with c | c
    · rw [if_neg (by omega)] at h; cases h
    · exact c
  rw [if_pos hlen0] at h
  obtain ⟨rfl, rfl⟩ := Prod.mk.inj (Option.some.inj h)
  have hput := fun W => head_Put.calls h0 h1 h2 h3 h4 h5 h6 h7 h8 h9 h10 hb0 ok0 W A2
  have hahead : ∀ W, w.heap.size ≤ W.heap.size → Calls Tryz.prog 55 #[.agg #[.string a0, .string a1, .int .u8 a2, .int .i64 a3, .int .i64 a4, .int .i64 a5, .int .i64 a6, .string a7]] W fun e w' => ∃ A c, e = .returned (.slice A ah.length c) ∧ Aside0 (InRow w.heap.size w' (A, c, ah)) ∧ Below W.heap.size W w' := fun W hW => (long_Ahead.calls a0 a1 a2 a3 a4 a5 a6 a7 ah W A3).mono (by
    rintro e w' ⟨v, rfl, hR, hB⟩
    obtain ⟨A, c, rfl, hin⟩ := InRow.of_R hR hW
    exact ⟨A, c, rfl, ⟨hin⟩, hB⟩)
  have hcut : ∀ W, w.heap.size ≤ W.heap.size → Calls Tryz.prog 56 #[.string a7] W fun e w' => ∃ A c, e = .returned (.slice A cu.length c) ∧ Aside0 (InRow w.heap.size w' (A, c, cu)) ∧ Below W.heap.size W w' := fun W hW => (block_Cut.calls a7 cu W A4).mono (by
    rintro e w' ⟨v, rfl, hR, hB⟩
    obtain ⟨A, c, rfl, hin⟩ := InRow.of_R hR hW
    exact ⟨A, c, rfl, ⟨hin⟩, hB⟩)
  have hlen : ∀ (A1 A2 A3 : Option Addr) (c1 c2 c3 : Nat), totalL [(A1, c1, ah), (A2, c2, [hb0]), (A3, c3, cu)] ≤ 100000 := fun A1 A2 A3 c1 c2 c3 => by
    simp only [totalL, List.map_cons, List.map_nil, List.sum_cons, List.sum_nil, List.length_cons, List.length_nil]; omega
  have hlen := fun {A1 A2 A3 c1 c2 c3} => hlen A1 A2 A3 c1 c2 c3
  clear A2 A3 A4 h hlen0
  have HB0 := Aside0.mk (Below.refl w.heap.size w)
  have HB0 := Aside0.mk (below_alloc HB0.out (.cells #[.string a0, .string a1, .int .u8 a2, .int .i64 a3, .int .i64 a4, .int .i64 a5, .int .i64 a6, .string a7] 41))
  have HXn_0 := Aside0.mk (heap_alloc_new w (.cells #[.string a0, .string a1, .int .u8 a2, .int .i64 a3, .int .i64 a4, .int .i64 a5, .int .i64 a6, .string a7] 41))
  go_enter Tryz.func33, Tryz.ntmps33
  go_upto_region 5 with (first | (go_at_call 52; refine (hhead _).mono ?_; rintro e w1 ⟨rfl, hb⟩; have HB1 := Aside0.mk (below_alloc (below_step HB0.out hb) (.cells #[.string h0, .string h1, .string h2, .int .i64 h3, .int .i64 h4, .int .i64 h5, .int .i64 h6, .int .i64 h7, .int .u8 h8, .int .i64 h9, .int .i64 h10] 83)); have HXn_1 := Aside0.mk (blk_alloc (blk_below HXn_0.out hb) (.cells #[.string h0, .string h1, .string h2, .int .i64 h3, .int .i64 h4, .int .i64 h5, .int .i64 h6, .int .i64 h7, .int .u8 h8, .int .i64 h9, .int .i64 h10] 83)); have HXh_1 := Aside0.mk (heap_alloc_new w1 (.cells #[.string h0, .string h1, .string h2, .int .i64 h3, .int .i64 h4, .int .i64 h5, .int .i64 h6, .int .i64 h7, .int .u8 h8, .int .i64 h9, .int .i64 h10] 83)); clear hb; have zh0_1 := (blk_cell HXh_1.out 0).trans (show _ = some (Value.string h0) from rfl); have zh1_1 := (blk_cell HXh_1.out 1).trans (show _ = some (Value.string h1) from rfl); have zh2_1 := (blk_cell HXh_1.out 2).trans (show _ = some (Value.string h2) from rfl); have zh3_1 := (blk_cell HXh_1.out 3).trans (show _ = some (Value.int .i64 h3) from rfl); have zh4_1 := (blk_cell HXh_1.out 4).trans (show _ = some (Value.int .i64 h4) from rfl); have zh5_1 := (blk_cell HXh_1.out 5).trans (show _ = some (Value.int .i64 h5) from rfl); have zh6_1 := (blk_cell HXh_1.out 6).trans (show _ = some (Value.int .i64 h6) from rfl); have zh7_1 := (blk_cell HXh_1.out 7).trans (show _ = some (Value.int .i64 h7) from rfl); have zh8_1 := (blk_cell HXh_1.out 8).trans (show _ = some (Value.int .u8 h8) from rfl); have zh9_1 := (blk_cell HXh_1.out 9).trans (show _ = some (Value.int .i64 h9) from rfl); have zh10_1 := (blk_cell HXh_1.out 10).trans (show _ = some (Value.int .i64 h10) from rfl)) | (go_at_call 53; refine (hput _).mono ?_; rintro e w2 ⟨vb, rfl, hR, hb⟩; have HB2 := Aside0.mk (below_step HB1.out hb); have HXn_2 := Aside0.mk (blk_below HXn_1.out hb); have HRb := Aside0.mk (Kd.R_lower hR (HB1.out.size)); clear hb hR; have zn0_2 := (blk_cell HXn_2.out 0).trans (show _ = some (Value.string a0) from rfl); have zn1_2 := (blk_cell HXn_2.out 1).trans (show _ = some (Value.string a1) from rfl); have zn2_2 := (blk_cell HXn_2.out 2).trans (show _ = some (Value.int .u8 a2) from rfl); have zn3_2 := (blk_cell HXn_2.out 3).trans (show _ = some (Value.int .i64 a3) from rfl); have zn4_2 := (blk_cell HXn_2.out 4).trans (show _ = some (Value.int .i64 a4) from rfl); have zn5_2 := (blk_cell HXn_2.out 5).trans (show _ = some (Value.int .i64 a5) from rfl); have zn6_2 := (blk_cell HXn_2.out 6).trans (show _ = some (Value.int .i64 a6) from rfl); have zn7_2 := (blk_cell HXn_2.out 7).trans (show _ = some (Value.string a7) from rfl)))
  have HBr := Aside0.mk (below_drew1 HB2.out)
  have HXn_r := Aside0.mk (blk_drew HXn_2.out)
  have HRb := Aside0.mk (Kd.R_drewN HRb.out 1)
  obtain ⟨Ab, cb, rfl⟩ := Kd.R_slice HRb.out
  clear hhead hput HB0 HXn_0 HB1 HXn_1 HXh_1 HB2 HXn_2 zh0_1 zh1_1 zh2_1 zh3_1 zh4_1 zh5_1 zh6_1 zh7_1 zh8_1 zh9_1 zh10_1
  refine start_ (n := 11) (S := fun w' => w'.cell? ⟨w.heap.size, 0, none⟩ = some (Value.string a0) ∧ w'.cell? ⟨w.heap.size, 1, none⟩ = some (Value.string a1) ∧ w'.cell? ⟨w.heap.size, 2, none⟩ = some (Value.int .u8 a2) ∧ w'.cell? ⟨w.heap.size, 3, none⟩ = some (Value.int .i64 a3) ∧ w'.cell? ⟨w.heap.size, 4, none⟩ = some (Value.int .i64 a4) ∧ w'.cell? ⟨w.heap.size, 5, none⟩ = some (Value.int .i64 a5) ∧ w'.cell? ⟨w.heap.size, 6, none⟩ = some (Value.int .i64 a6) ∧ w'.cell? ⟨w.heap.size, 7, none⟩ = some (Value.string a7)) (ds := []) #[false, false, false, false, false, false, false, false, false, false, false] (by kernel_rfl) rfl rfl ⟨(blk_cell HXn_r.out 0).trans rfl, (blk_cell HXn_r.out 1).trans rfl, (blk_cell HXn_r.out 2).trans rfl, (blk_cell HXn_r.out 3).trans rfl, (blk_cell HXn_r.out 4).trans rfl, (blk_cell HXn_r.out 5).trans rfl, (blk_cell HXn_r.out 6).trans rfl, (blk_cell HXn_r.out 7).trans rfl⟩ (fun hHeld => ?_)
  refine take_ (i := 0) (N := some 20) (v := ?_) (a' := ?_) #[true, false, false, false, false, false, false, false, false, false, false] rfl rfl (by kernel_rfl) (fun _ _ _ h => h) (Or.inl ⟨by rfl, ?_⟩) hHeld ?_ ?_
  rotate_left
  · rintro w' ⟨s0, s1, s2, s3, s4, s5, s6, s7⟩
    go_simp
    with_reducible rfl
  rotate_left
  · aput
    rfl
  refine pure_ (i := 2) (N := some 22) (v := ?_) (a' := ?_) #[true, false, true, false, false, false, false, false, false, false, false] rfl rfl (by kernel_rfl) (fun _ _ _ h => h) (Or.inl ⟨by rfl, ?_⟩) ?_ ?_
  rotate_left
  · intro w'
    go_simp
    with_reducible rfl
  rotate_left
  · aput
    rfl
  refine pure_ (i := 4) (N := some 24) (v := ?_) (a' := ?_) #[true, false, true, false, true, false, false, false, false, false, false] rfl rfl (by kernel_rfl) (fun _ _ _ h => h) (Or.inl ⟨by rfl, ?_⟩) ?_ ?_
  rotate_left
  · intro w'
    go_simp
    with_reducible rfl
  rotate_left
  · aput
    rfl
  refine take_ (i := 5) (N := some 25) (v := ?_) (a' := ?_) #[true, false, true, false, true, true, false, false, false, false, false] rfl rfl (by kernel_rfl) (fun _ _ _ h => h) (Or.inl ⟨by rfl, ?_⟩) hHeld ?_ ?_
  rotate_left
  · rintro w' ⟨s0, s1, s2, s3, s4, s5, s6, s7⟩
    go_simp
    with_reducible rfl
  rotate_left
  · aput
    rfl
  refine two_ (i := 1) (Ni := some 21) (j := 3) (Nj := some 23) #[true, true, true, false, true, true, false, false, false, false, false] #[true, false, true, true, true, true, false, false, false, false, false] rfl rfl rfl rfl (by kernel_rfl) (by decide) (by decide) (fun K hK => ?_) (fun K hK => ?_)
  · refine goes_ Tryz.func55 (by kernel_rfl) rfl #[.agg #[.string a0, .string a1, .int .u8 a2, .int .i64 a3, .int .i64 a4, .int .i64 a5, .int .i64 a6, .string a7]] (by rfl) rfl rfl (by (try simp only [List.map_toArray, List.map_cons, List.map_nil]); first | done | rfl | (simp only [List.length_drop, List.length_take]; rfl)) ?_
    refine (hahead _ (by have h_ := HBr.out.size; first | exact h_ | (simp at h_ ⊢; omega))).mono ?_
    rintro e w1_ ⟨A1, c1, rfl, HI1, hb⟩
    have HB1 := below_step HBr.out hb
    have HX1 := blk_below HXn_r.out hb
    have HI1 := HI1.out
    have HR1 := Kd.R_below HRb.out hb
    refine ⟨_, rfl, ?_⟩
    refine hK.out _ _ ⟨(blk_cell HX1 0).trans rfl, (blk_cell HX1 1).trans rfl, (blk_cell HX1 2).trans rfl, (blk_cell HX1 3).trans rfl, (blk_cell HX1 4).trans rfl, (blk_cell HX1 5).trans rfl, (blk_cell HX1 6).trans rfl, (blk_cell HX1 7).trans rfl⟩ (fun hHeld => ?_)
    clear hK K
    refine norm_ (a' := ?_) ?_ ?_
    rotate_left
    · show Act.put _ (some 21) _ = _
      aput
      rfl
    refine two_ (i := 3) (Ni := some 23) (j := 6) (Nj := some 26) #[true, true, true, true, true, true, false, false, false, false, false] #[true, true, true, false, true, true, true, false, false, false, false] rfl rfl rfl rfl (by kernel_rfl) (by decide) (by decide) (fun K hK => ?_) (fun K hK => ?_)
    · go_simp
      have HL2 := InRow.lit HR1 rfl
      have HB2 := below_alloc HB1 (.cells #[.slice Ab hb0.length cb] 43)
      have HX2 := blk_alloc HX1 (.cells #[.slice Ab hb0.length cb] 43)
      have HIx2 := HI1.below (below_alloc (Below.refl _ _) (.cells #[.slice Ab hb0.length cb] 43))
      refine hK.out _ _ ⟨(blk_cell HX2 0).trans rfl, (blk_cell HX2 1).trans rfl, (blk_cell HX2 2).trans rfl, (blk_cell HX2 3).trans rfl, (blk_cell HX2 4).trans rfl, (blk_cell HX2 5).trans rfl, (blk_cell HX2 6).trans rfl, (blk_cell HX2 7).trans rfl⟩ (fun hHeld => ?_)
      clear hK K
      refine one_ (i := 6) (N := some 26) #[true, true, true, true, true, true, true, false, false, false, false] rfl rfl (by kernel_rfl) (by decide) (fun K hK => ?_)
      refine goes_ Tryz.func56 (by kernel_rfl) rfl #[.string a7] (by rfl) rfl rfl (by (try simp only [List.map_toArray, List.map_cons, List.map_nil]); first | done | rfl | (simp only [List.length_drop, List.length_take]; rfl)) ?_
      refine (hcut _ (by have h_ := HB2.size; first | exact h_ | (simp at h_ ⊢; omega))).mono ?_
      rintro e w3_ ⟨A3, c3, rfl, HI3, hb⟩
      have HB3 := below_step HB2 hb
      have HX3 := blk_below HX2 hb
      have HI3 := HI3.out
      have HJ3 := HIx2.below hb
      have HL3 := HL2.below hb
      refine ⟨_, rfl, ?_⟩
      refine hK.out _ _ ⟨(blk_cell HX3 0).trans rfl, (blk_cell HX3 1).trans rfl, (blk_cell HX3 2).trans rfl, (blk_cell HX3 3).trans rfl, (blk_cell HX3 4).trans rfl, (blk_cell HX3 5).trans rfl, (blk_cell HX3 6).trans rfl, (blk_cell HX3 7).trans rfl⟩ (fun hHeld => ?_)
      clear hK K
      refine norm_ (a' := ?_) ?_ ?_
      rotate_left
      · show Act.put _ (some 26) _ = _
        aput
        rfl
      refine one_ (i := 7) (N := some 27) #[true, true, true, true, true, true, true, true, false, false, false] rfl rfl (by kernel_rfl) (by decide) (fun K hK => ?_)
      go_simp
      have hbl := heap_alloc_new w3_ (.cells #[.slice A1 ah.length c1, .slice (some ⟨w1_.heap.size, 0, none⟩) 1 1, .slice A3 cu.length c3] 23)
      refine hK.out _ _ ⟨(blk_cell (blk_alloc HX3 (.cells #[.slice A1 ah.length c1, .slice (some ⟨w1_.heap.size, 0, none⟩) 1 1, .slice A3 cu.length c3] 23)) 0).trans rfl, (blk_cell (blk_alloc HX3 (.cells #[.slice A1 ah.length c1, .slice (some ⟨w1_.heap.size, 0, none⟩) 1 1, .slice A3 cu.length c3] 23)) 1).trans rfl, (blk_cell (blk_alloc HX3 (.cells #[.slice A1 ah.length c1, .slice (some ⟨w1_.heap.size, 0, none⟩) 1 1, .slice A3 cu.length c3] 23)) 2).trans rfl, (blk_cell (blk_alloc HX3 (.cells #[.slice A1 ah.length c1, .slice (some ⟨w1_.heap.size, 0, none⟩) 1 1, .slice A3 cu.length c3] 23)) 3).trans rfl, (blk_cell (blk_alloc HX3 (.cells #[.slice A1 ah.length c1, .slice (some ⟨w1_.heap.size, 0, none⟩) 1 1, .slice A3 cu.length c3] 23)) 4).trans rfl, (blk_cell (blk_alloc HX3 (.cells #[.slice A1 ah.length c1, .slice (some ⟨w1_.heap.size, 0, none⟩) 1 1, .slice A3 cu.length c3] 23)) 5).trans rfl, (blk_cell (blk_alloc HX3 (.cells #[.slice A1 ah.length c1, .slice (some ⟨w1_.heap.size, 0, none⟩) 1 1, .slice A3 cu.length c3] 23)) 6).trans rfl, (blk_cell (blk_alloc HX3 (.cells #[.slice A1 ah.length c1, .slice (some ⟨w1_.heap.size, 0, none⟩) 1 1, .slice A3 cu.length c3] 23)) 7).trans rfl⟩ (fun hHeld => ?_)
      clear hK K
      refine one_ (i := 8) (N := some 28) #[true, true, true, true, true, true, true, true, true, false, false] rfl rfl (by kernel_rfl) (by decide) (fun K hK => ?_)
      have hj := entry_joined.at_ w.heap.size _ [(A1, c1, ah), (some ⟨w1_.heap.size, 0, none⟩, 1, [hb0]), (A3, c3, cu)] _ hbl (by intro x hx; simp only [List.mem_cons, List.not_mem_nil, or_false] at hx; rcases hx with rfl | hx; exact (HJ3.below (below_alloc (Below.refl _ _) _)); rcases hx with rfl | hx; exact (HL3.below (below_alloc (Below.refl _ _) _)); subst hx; exact (HI3.below (below_alloc (Below.refl _ _) _))) hlen (by simp) (by have := HB3.size; simp at this ⊢; omega)
      refine goes_ Tryz.func54 (by kernel_rfl) rfl #[.slice (some ⟨w3_.heap.size, 0, none⟩) 3 3] (by rfl) rfl rfl (by (try simp only [List.map_toArray, List.map_cons, List.map_nil]); first | done | rfl | (simp only [List.length_drop, List.length_take]; rfl)) ?_
      refine hj.mono ?_
      rintro e wz ⟨v, rfl, hR, hb⟩
      have HBz := Aside0.mk (below_step (below_alloc HB3 (.cells #[.slice A1 ah.length c1, .slice (some ⟨w1_.heap.size, 0, none⟩) 1 1, .slice A3 cu.length c3] 23)) hb)
      have hXz := blk_below (blk_alloc HX3 (.cells #[.slice A1 ah.length c1, .slice (some ⟨w1_.heap.size, 0, none⟩) 1 1, .slice A3 cu.length c3] 23)) hb
      refine ⟨_, rfl, ?_⟩
      refine hK.out _ _ ⟨(blk_cell hXz 0).trans rfl, (blk_cell hXz 1).trans rfl, (blk_cell hXz 2).trans rfl, (blk_cell hXz 3).trans rfl, (blk_cell hXz 4).trans rfl, (blk_cell hXz 5).trans rfl, (blk_cell hXz 6).trans rfl, (blk_cell hXz 7).trans rfl⟩ (fun hHeld => ?_)
      clear hK K
      refine norm_ (a' := ?_) ?_ ?_
      rotate_left
      · show Act.put _ (some 28) _ = _
        aput
        rfl
      refine pure_ (i := 9) (N := some 2) (v := ?_) (a' := ?_) #[true, true, true, true, true, true, true, true, true, true, false] rfl rfl (by kernel_rfl) (fun _ _ _ h => h) (Or.inl ⟨by rfl, ?_⟩) ?_ ?_
      rotate_left
      · intro w'
        go_simp
        with_reducible rfl
      rotate_left
      · aput
        rfl
      refine pure_ (i := 10) (N := some 3) (v := ?_) (a' := ?_) #[true, true, true, true, true, true, true, true, true, true, true] rfl rfl (by kernel_rfl) (fun _ _ _ h => h) (Or.inl ⟨by rfl, ?_⟩) ?_ ?_
      rotate_left
      · intro w'
        go_simp
        with_reducible rfl
      rotate_left
      · aput
        rfl
      refine done_ (by kernel_rfl) ?_
      go_wp2_with (fail)
      go_ret2
      exact ⟨_, rfl, by simpa [flatL] using hR, HBz.out⟩
    · refine goes_ Tryz.func56 (by kernel_rfl) rfl #[.string a7] (by rfl) rfl rfl (by (try simp only [List.map_toArray, List.map_cons, List.map_nil]); first | done | rfl | (simp only [List.length_drop, List.length_take]; rfl)) ?_
      refine (hcut _ (by have h_ := HB1.size; first | exact h_ | (simp at h_ ⊢; omega))).mono ?_
      rintro e w4_ ⟨A4, c4, rfl, HI4, hb⟩
      have HB4 := below_step HB1 hb
      have HX4 := blk_below HX1 hb
      have HI4 := HI4.out
      have HJ4 := HI1.below hb
      have HR4 := Kd.R_below HR1 hb
      refine ⟨_, rfl, ?_⟩
      refine hK.out _ _ ⟨(blk_cell HX4 0).trans rfl, (blk_cell HX4 1).trans rfl, (blk_cell HX4 2).trans rfl, (blk_cell HX4 3).trans rfl, (blk_cell HX4 4).trans rfl, (blk_cell HX4 5).trans rfl, (blk_cell HX4 6).trans rfl, (blk_cell HX4 7).trans rfl⟩ (fun hHeld => ?_)
      clear hK K
      refine norm_ (a' := ?_) ?_ ?_
      rotate_left
      · show Act.put _ (some 26) _ = _
        aput
        rfl
      refine one_ (i := 3) (N := some 23) #[true, true, true, true, true, true, true, false, false, false, false] rfl rfl (by kernel_rfl) (by decide) (fun K hK => ?_)
      go_simp
      have HL5 := InRow.lit HR4 rfl
      have HB5 := below_alloc HB4 (.cells #[.slice Ab hb0.length cb] 43)
      have HX5 := blk_alloc HX4 (.cells #[.slice Ab hb0.length cb] 43)
      have HIx5 := HJ4.below (below_alloc (Below.refl _ _) (.cells #[.slice Ab hb0.length cb] 43))
      have HIc5 := HI4.below (below_alloc (Below.refl _ _) (.cells #[.slice Ab hb0.length cb] 43))
      refine hK.out _ _ ⟨(blk_cell HX5 0).trans rfl, (blk_cell HX5 1).trans rfl, (blk_cell HX5 2).trans rfl, (blk_cell HX5 3).trans rfl, (blk_cell HX5 4).trans rfl, (blk_cell HX5 5).trans rfl, (blk_cell HX5 6).trans rfl, (blk_cell HX5 7).trans rfl⟩ (fun hHeld => ?_)
      clear hK K
      refine one_ (i := 7) (N := some 27) #[true, true, true, true, true, true, true, true, false, false, false] rfl rfl (by kernel_rfl) (by decide) (fun K hK => ?_)
      go_simp
      have hbl := heap_alloc_new ((w4_).alloc (.cells #[.slice Ab hb0.length cb] 43)) (.cells #[.slice A1 ah.length c1, .slice (some ⟨w4_.heap.size, 0, none⟩) 1 1, .slice A4 cu.length c4] 23)
      rw [show ((w4_).alloc (.cells #[.slice Ab hb0.length cb] 43)).heap.size = w4_.heap.size + 1 by simp] at hbl
      refine hK.out _ _ ⟨(blk_cell (blk_alloc HX5 (.cells #[.slice A1 ah.length c1, .slice (some ⟨w4_.heap.size, 0, none⟩) 1 1, .slice A4 cu.length c4] 23)) 0).trans rfl, (blk_cell (blk_alloc HX5 (.cells #[.slice A1 ah.length c1, .slice (some ⟨w4_.heap.size, 0, none⟩) 1 1, .slice A4 cu.length c4] 23)) 1).trans rfl, (blk_cell (blk_alloc HX5 (.cells #[.slice A1 ah.length c1, .slice (some ⟨w4_.heap.size, 0, none⟩) 1 1, .slice A4 cu.length c4] 23)) 2).trans rfl, (blk_cell (blk_alloc HX5 (.cells #[.slice A1 ah.length c1, .slice (some ⟨w4_.heap.size, 0, none⟩) 1 1, .slice A4 cu.length c4] 23)) 3).trans rfl, (blk_cell (blk_alloc HX5 (.cells #[.slice A1 ah.length c1, .slice (some ⟨w4_.heap.size, 0, none⟩) 1 1, .slice A4 cu.length c4] 23)) 4).trans rfl, (blk_cell (blk_alloc HX5 (.cells #[.slice A1 ah.length c1, .slice (some ⟨w4_.heap.size, 0, none⟩) 1 1, .slice A4 cu.length c4] 23)) 5).trans rfl, (blk_cell (blk_alloc HX5 (.cells #[.slice A1 ah.length c1, .slice (some ⟨w4_.heap.size, 0, none⟩) 1 1, .slice A4 cu.length c4] 23)) 6).trans rfl, (blk_cell (blk_alloc HX5 (.cells #[.slice A1 ah.length c1, .slice (some ⟨w4_.heap.size, 0, none⟩) 1 1, .slice A4 cu.length c4] 23)) 7).trans rfl⟩ (fun hHeld => ?_)
      clear hK K
      refine one_ (i := 8) (N := some 28) #[true, true, true, true, true, true, true, true, true, false, false] rfl rfl (by kernel_rfl) (by decide) (fun K hK => ?_)
      have hj := entry_joined.at_ w.heap.size _ [(A1, c1, ah), (some ⟨w4_.heap.size, 0, none⟩, 1, [hb0]), (A4, c4, cu)] _ hbl (by intro x hx; simp only [List.mem_cons, List.not_mem_nil, or_false] at hx; rcases hx with rfl | hx; exact (HIx5.below (below_alloc (Below.refl _ _) _)); rcases hx with rfl | hx; exact (HL5.below (below_alloc (Below.refl _ _) _)); subst hx; exact (HIc5.below (below_alloc (Below.refl _ _) _))) hlen (by simp) (by have := HB5.size; simp at this ⊢; omega)
      refine goes_ Tryz.func54 (by kernel_rfl) rfl #[.slice (some ⟨w4_.heap.size + 1, 0, none⟩) 3 3] (by rfl) rfl rfl (by (try simp only [List.map_toArray, List.map_cons, List.map_nil]); first | done | rfl | (simp only [List.length_drop, List.length_take]; rfl)) ?_
      refine hj.mono ?_
      rintro e wz ⟨v, rfl, hR, hb⟩
      have HBz := Aside0.mk (below_step (below_alloc HB5 (.cells #[.slice A1 ah.length c1, .slice (some ⟨w4_.heap.size, 0, none⟩) 1 1, .slice A4 cu.length c4] 23)) hb)
      have hXz := blk_below (blk_alloc HX5 (.cells #[.slice A1 ah.length c1, .slice (some ⟨w4_.heap.size, 0, none⟩) 1 1, .slice A4 cu.length c4] 23)) hb
      refine ⟨_, rfl, ?_⟩
      refine hK.out _ _ ⟨(blk_cell hXz 0).trans rfl, (blk_cell hXz 1).trans rfl, (blk_cell hXz 2).trans rfl, (blk_cell hXz 3).trans rfl, (blk_cell hXz 4).trans rfl, (blk_cell hXz 5).trans rfl, (blk_cell hXz 6).trans rfl, (blk_cell hXz 7).trans rfl⟩ (fun hHeld => ?_)
      clear hK K
      refine norm_ (a' := ?_) ?_ ?_
      rotate_left
      · show Act.put _ (some 28) _ = _
        aput
        rfl
      refine pure_ (i := 9) (N := some 2) (v := ?_) (a' := ?_) #[true, true, true, true, true, true, true, true, true, true, false] rfl rfl (by kernel_rfl) (fun _ _ _ h => h) (Or.inl ⟨by rfl, ?_⟩) ?_ ?_
      rotate_left
      · intro w'
        go_simp
        with_reducible rfl
      rotate_left
      · aput
        rfl
      refine pure_ (i := 10) (N := some 3) (v := ?_) (a' := ?_) #[true, true, true, true, true, true, true, true, true, true, true] rfl rfl (by kernel_rfl) (fun _ _ _ h => h) (Or.inl ⟨by rfl, ?_⟩) ?_ ?_
      rotate_left
      · intro w'
        go_simp
        with_reducible rfl
      rotate_left
      · aput
        rfl
      refine done_ (by kernel_rfl) ?_
      go_wp2_with (fail)
      go_ret2
      exact ⟨_, rfl, by simpa [flatL] using hR, HBz.out⟩
  · go_simp
    have HL6 := InRow.lit HRb.out rfl
    have HB6 := below_alloc HBr.out (.cells #[.slice Ab hb0.length cb] 43)
    have HX6 := blk_alloc HXn_r.out (.cells #[.slice Ab hb0.length cb] 43)
    refine hK.out _ _ ⟨(blk_cell HX6 0).trans rfl, (blk_cell HX6 1).trans rfl, (blk_cell HX6 2).trans rfl, (blk_cell HX6 3).trans rfl, (blk_cell HX6 4).trans rfl, (blk_cell HX6 5).trans rfl, (blk_cell HX6 6).trans rfl, (blk_cell HX6 7).trans rfl⟩ (fun hHeld => ?_)
    clear hK K
    refine one_ (i := 1) (N := some 21) #[true, true, true, true, true, true, false, false, false, false, false] rfl rfl (by kernel_rfl) (by decide) (fun K hK => ?_)
    refine goes_ Tryz.func55 (by kernel_rfl) rfl #[.agg #[.string a0, .string a1, .int .u8 a2, .int .i64 a3, .int .i64 a4, .int .i64 a5, .int .i64 a6, .string a7]] (by rfl) rfl rfl (by (try simp only [List.map_toArray, List.map_cons, List.map_nil]); first | done | rfl | (simp only [List.length_drop, List.length_take]; rfl)) ?_
    refine (hahead _ (by have h_ := HB6.size; first | exact h_ | (simp at h_ ⊢; omega))).mono ?_
    rintro e w7_ ⟨A7, c7, rfl, HI7, hb⟩
    have HB7 := below_step HB6 hb
    have HX7 := blk_below HX6 hb
    have HI7 := HI7.out
    have HL7 := HL6.below hb
    refine ⟨_, rfl, ?_⟩
    refine hK.out _ _ ⟨(blk_cell HX7 0).trans rfl, (blk_cell HX7 1).trans rfl, (blk_cell HX7 2).trans rfl, (blk_cell HX7 3).trans rfl, (blk_cell HX7 4).trans rfl, (blk_cell HX7 5).trans rfl, (blk_cell HX7 6).trans rfl, (blk_cell HX7 7).trans rfl⟩ (fun hHeld => ?_)
    clear hK K
    refine norm_ (a' := ?_) ?_ ?_
    rotate_left
    · show Act.put _ (some 21) _ = _
      aput
      rfl
    refine one_ (i := 6) (N := some 26) #[true, true, true, true, true, true, true, false, false, false, false] rfl rfl (by kernel_rfl) (by decide) (fun K hK => ?_)
    refine goes_ Tryz.func56 (by kernel_rfl) rfl #[.string a7] (by rfl) rfl rfl (by (try simp only [List.map_toArray, List.map_cons, List.map_nil]); first | done | rfl | (simp only [List.length_drop, List.length_take]; rfl)) ?_
    refine (hcut _ (by have h_ := HB7.size; first | exact h_ | (simp at h_ ⊢; omega))).mono ?_
    rintro e w8_ ⟨A8, c8, rfl, HI8, hb⟩
    have HB8 := below_step HB7 hb
    have HX8 := blk_below HX7 hb
    have HI8 := HI8.out
    have HJ8 := HI7.below hb
    have HL8 := HL7.below hb
    refine ⟨_, rfl, ?_⟩
    refine hK.out _ _ ⟨(blk_cell HX8 0).trans rfl, (blk_cell HX8 1).trans rfl, (blk_cell HX8 2).trans rfl, (blk_cell HX8 3).trans rfl, (blk_cell HX8 4).trans rfl, (blk_cell HX8 5).trans rfl, (blk_cell HX8 6).trans rfl, (blk_cell HX8 7).trans rfl⟩ (fun hHeld => ?_)
    clear hK K
    refine norm_ (a' := ?_) ?_ ?_
    rotate_left
    · show Act.put _ (some 26) _ = _
      aput
      rfl
    refine one_ (i := 7) (N := some 27) #[true, true, true, true, true, true, true, true, false, false, false] rfl rfl (by kernel_rfl) (by decide) (fun K hK => ?_)
    go_simp
    have hbl := heap_alloc_new w8_ (.cells #[.slice A7 ah.length c7, .slice (some ⟨w2.heap.size, 0, none⟩) 1 1, .slice A8 cu.length c8] 23)
    refine hK.out _ _ ⟨(blk_cell (blk_alloc HX8 (.cells #[.slice A7 ah.length c7, .slice (some ⟨w2.heap.size, 0, none⟩) 1 1, .slice A8 cu.length c8] 23)) 0).trans rfl, (blk_cell (blk_alloc HX8 (.cells #[.slice A7 ah.length c7, .slice (some ⟨w2.heap.size, 0, none⟩) 1 1, .slice A8 cu.length c8] 23)) 1).trans rfl, (blk_cell (blk_alloc HX8 (.cells #[.slice A7 ah.length c7, .slice (some ⟨w2.heap.size, 0, none⟩) 1 1, .slice A8 cu.length c8] 23)) 2).trans rfl, (blk_cell (blk_alloc HX8 (.cells #[.slice A7 ah.length c7, .slice (some ⟨w2.heap.size, 0, none⟩) 1 1, .slice A8 cu.length c8] 23)) 3).trans rfl, (blk_cell (blk_alloc HX8 (.cells #[.slice A7 ah.length c7, .slice (some ⟨w2.heap.size, 0, none⟩) 1 1, .slice A8 cu.length c8] 23)) 4).trans rfl, (blk_cell (blk_alloc HX8 (.cells #[.slice A7 ah.length c7, .slice (some ⟨w2.heap.size, 0, none⟩) 1 1, .slice A8 cu.length c8] 23)) 5).trans rfl, (blk_cell (blk_alloc HX8 (.cells #[.slice A7 ah.length c7, .slice (some ⟨w2.heap.size, 0, none⟩) 1 1, .slice A8 cu.length c8] 23)) 6).trans rfl, (blk_cell (blk_alloc HX8 (.cells #[.slice A7 ah.length c7, .slice (some ⟨w2.heap.size, 0, none⟩) 1 1, .slice A8 cu.length c8] 23)) 7).trans rfl⟩ (fun hHeld => ?_)
    clear hK K
    refine one_ (i := 8) (N := some 28) #[true, true, true, true, true, true, true, true, true, false, false] rfl rfl (by kernel_rfl) (by decide) (fun K hK => ?_)
    have hj := entry_joined.at_ w.heap.size _ [(A7, c7, ah), (some ⟨w2.heap.size, 0, none⟩, 1, [hb0]), (A8, c8, cu)] _ hbl (by intro x hx; simp only [List.mem_cons, List.not_mem_nil, or_false] at hx; rcases hx with rfl | hx; exact (HJ8.below (below_alloc (Below.refl _ _) _)); rcases hx with rfl | hx; exact (HL8.below (below_alloc (Below.refl _ _) _)); subst hx; exact (HI8.below (below_alloc (Below.refl _ _) _))) hlen (by simp) (by have := HB8.size; simp at this ⊢; omega)
    refine goes_ Tryz.func54 (by kernel_rfl) rfl #[.slice (some ⟨w8_.heap.size, 0, none⟩) 3 3] (by rfl) rfl rfl (by (try simp only [List.map_toArray, List.map_cons, List.map_nil]); first | done | rfl | (simp only [List.length_drop, List.length_take]; rfl)) ?_
    refine hj.mono ?_
    rintro e wz ⟨v, rfl, hR, hb⟩
    have HBz := Aside0.mk (below_step (below_alloc HB8 (.cells #[.slice A7 ah.length c7, .slice (some ⟨w2.heap.size, 0, none⟩) 1 1, .slice A8 cu.length c8] 23)) hb)
    have hXz := blk_below (blk_alloc HX8 (.cells #[.slice A7 ah.length c7, .slice (some ⟨w2.heap.size, 0, none⟩) 1 1, .slice A8 cu.length c8] 23)) hb
    refine ⟨_, rfl, ?_⟩
    refine hK.out _ _ ⟨(blk_cell hXz 0).trans rfl, (blk_cell hXz 1).trans rfl, (blk_cell hXz 2).trans rfl, (blk_cell hXz 3).trans rfl, (blk_cell hXz 4).trans rfl, (blk_cell hXz 5).trans rfl, (blk_cell hXz 6).trans rfl, (blk_cell hXz 7).trans rfl⟩ (fun hHeld => ?_)
    clear hK K
    refine norm_ (a' := ?_) ?_ ?_
    rotate_left
    · show Act.put _ (some 28) _ = _
      aput
      rfl
    refine pure_ (i := 9) (N := some 2) (v := ?_) (a' := ?_) #[true, true, true, true, true, true, true, true, true, true, false] rfl rfl (by kernel_rfl) (fun _ _ _ h => h) (Or.inl ⟨by rfl, ?_⟩) ?_ ?_
    rotate_left
    · intro w'
      go_simp
      with_reducible rfl
    rotate_left
    · aput
      rfl
    refine pure_ (i := 10) (N := some 3) (v := ?_) (a' := ?_) #[true, true, true, true, true, true, true, true, true, true, true] rfl rfl (by kernel_rfl) (fun _ _ _ h => h) (Or.inl ⟨by rfl, ?_⟩) ?_ ?_
    rotate_left
    · intro w'
      go_simp
      with_reducible rfl
    rotate_left
    · aput
      rfl
    refine done_ (by kernel_rfl) ?_
    go_wp2_with (fail)
    go_ret2
    exact ⟨_, rfl, by simpa [flatL] using hR, HBz.out⟩
end
end Go.Proofs.YtpedagpcblnnhaaGreat.X
