import Derived.Test.YtpedagpcblnnhaaGreatXK
import Derived.Test.YtpedagpcblnnhaaGreatP06o
import Derived.Test.YtpedagpcblnnhaaGreatXGlong
import Derived.Test.YtpedagpcblnnhaaGreatXGpath
import Derived.Test.YtpedagpcblnnhaaGreatYAll
import Derived.BigQuiet
import Derived.BigRegion
import Derived.Deep.QuietTactic
import Derived.Deep.RegionHeld3
import Derived.Laws.Cover1
import Derived.Laws.EntriesVeiled
import Derived.WalkSpells
namespace Go.Proofs.YtpedagpcblnnhaaGreat.X
open Go.RowKit Go.Proofs.YtpedagpcblnnhaaGreatW.PrintWords Go.Proofs.YtpedagpcblnnhaaGreatW.PrintLast Go.Proofs.YtpedagpcblnnhaaGreatW.PrintMore
attribute [local go_sem] max2_int min2_int max_two min_two
set_option linter.unusedVariables false
set_option linter.unusedSimpArgs false
section
open Go.Proofs.YtpedagpcblnnhaaGreatY
def kindsObj : Obj := .map #[{ key := .int .u8 48, val := .func (.func 71) #[] #[], born := 0 }, { key := .int .u8 49, val := .func (.func 72) #[] #[], born := 1 }, { key := .int .u8 50, val := .func (.func 73) #[] #[], born := 2 }, { key := .int .u8 53, val := .func (.func 74) #[] #[], born := 3 }] 4
set_option maxHeartbeats 2000000 in
set_option maxRecDepth 100000 in
theorem tree_kinds.at_ (w : World) :
    Calls Tryz.prog 48 #[] w fun e w' => e = .returned (.map (some w.heap.size)) ∧ w.alloc kindsObj = w' := by
  have hmm := @run_makeMap Tryz.prog
  have h1 := run_mapUpdate_new (P := Tryz.prog) (T := 77) (w := w.alloc (.map #[] 0)) (b := w.heap.size) (k := .int .u8 48) (v := .func (.func 71) #[] #[]) Tryz.underlying77 Tryz.underlying5 (by simp [MapKept.IsKey]) (heap_alloc_new w _) rfl
  simp only [putObj_alloc, List.push_toArray, List.cons_append, List.nil_append, Nat.zero_add, Nat.reduceAdd] at h1
  have h2 := run_mapUpdate_new (P := Tryz.prog) (T := 77) (w := w.alloc (.map #[{ key := .int .u8 48, val := .func (.func 71) #[] #[], born := 0 }] 1)) (b := w.heap.size) (k := .int .u8 49) (v := .func (.func 72) #[] #[]) Tryz.underlying77 Tryz.underlying5 (by simp [MapKept.IsKey]) (heap_alloc_new w _) rfl
  simp only [putObj_alloc, List.push_toArray, List.cons_append, List.nil_append, Nat.zero_add, Nat.reduceAdd] at h2
  have h3 := run_mapUpdate_new (P := Tryz.prog) (T := 77) (w := w.alloc (.map #[{ key := .int .u8 48, val := .func (.func 71) #[] #[], born := 0 }, { key := .int .u8 49, val := .func (.func 72) #[] #[], born := 1 }] 2)) (b := w.heap.size) (k := .int .u8 50) (v := .func (.func 73) #[] #[]) Tryz.underlying77 Tryz.underlying5 (by simp [MapKept.IsKey]) (heap_alloc_new w _) rfl
  simp only [putObj_alloc, List.push_toArray, List.cons_append, List.nil_append, Nat.zero_add, Nat.reduceAdd] at h3
  have h4 := run_mapUpdate_new (P := Tryz.prog) (T := 77) (w := w.alloc (.map #[{ key := .int .u8 48, val := .func (.func 71) #[] #[], born := 0 }, { key := .int .u8 49, val := .func (.func 72) #[] #[], born := 1 }, { key := .int .u8 50, val := .func (.func 73) #[] #[], born := 2 }] 3)) (b := w.heap.size) (k := .int .u8 53) (v := .func (.func 74) #[] #[]) Tryz.underlying77 Tryz.underlying5 (by simp [MapKept.IsKey]) (heap_alloc_new w _) rfl
  simp only [putObj_alloc, List.push_toArray, List.cons_append, List.nil_append, Nat.zero_add, Nat.reduceAdd] at h4
  go_enter Tryz.func48, Tryz.ntmps48
  go_wp2
  go_ret
  exact ⟨rfl, rfl⟩
end
section
def tree_in.f (a0 : Int) (a1 : Int) : Option (Bool) := if a0 ≥ 0 then (some (decide (a0 ≤ a1))) else (some false)
set_option maxHeartbeats 8000000 in
set_option maxRecDepth 100000 in
theorem tree_in.calls (a0 : Int) (a1 : Int) (r : Bool) (w : World) (h : tree_in.f a0 a1 = some r) :
    Calls Tryz.prog 50 #[.int .i64 a0, .int .i64 a1] w fun e w' => e = .returned (.bool r) ∧ Drawn0 w w' := by
  have H : (if a0 ≥ 0 then (some (decide (a0 ≤ a1))) else (some false)) = some r := h
  clear h
  by_cases c3 : a0 ≥ 0
  · rw [if_pos c3] at H
    have c3b0 : decide (0 ≤ a0) = true := decide_eq_true c3
    clear c3
    obtain rfl := Option.some.inj H
    go_enter Tryz.func50, Tryz.ntmps50
    go_wp2
    go_ret
    exact ⟨by first | rfl | (simp; done) | (simp [*]; done), by repeat (first | exact Drawn0.refl _ | apply Drawn0.step)⟩
  · rw [if_neg c3] at H
    have c3b0 : decide (0 ≤ a0) = false := decide_eq_false c3
    clear c3
    obtain rfl := Option.some.inj H
    go_enter Tryz.func50, Tryz.ntmps50
    go_wp2
    go_ret
    exact ⟨by first | rfl | (simp; done) | (simp [*]; done), by repeat (first | exact Drawn0.refl _ | apply Drawn0.step)⟩
end
section
def tree_kinds_1.f (a0_0 : ByteArray) (a0_1 : ByteArray) (a0_2 : Int) (a0_3 : Int) (a0_4 : Int) (a0_5 : Int) (a0_6 : Int) (a0_7 : ByteArray) : Option (Bool) := if a0_1.toList = ([] : List UInt8) then (some (decide ((a0_7.size : Int) ≤ 4000))) else (some false)
set_option maxHeartbeats 8000000 in
set_option maxRecDepth 100000 in
theorem tree_kinds_1.calls (a0_0 : ByteArray) (a0_1 : ByteArray) (a0_2 : Int) (a0_3 : Int) (a0_4 : Int) (a0_5 : Int) (a0_6 : Int) (a0_7 : ByteArray) (r : Bool) (w : World) (h : tree_kinds_1.f a0_0 a0_1 a0_2 a0_3 a0_4 a0_5 a0_6 a0_7 = some r) :
    Calls Tryz.prog 71 #[.agg #[.string a0_0, .string a0_1, .int .u8 a0_2, .int .i64 a0_3, .int .i64 a0_4, .int .i64 a0_5, .int .i64 a0_6, .string a0_7]] w fun e w' => e = .returned (.bool r) ∧ Below w.heap.size w w' := by
  have hu41 := Tryz.underlying41
  have HB := Aside0.mk (Below.refl w.heap.size w)
  have H : (if a0_1.toList = ([] : List UInt8) then (some (decide ((a0_7.size : Int) ≤ 4000))) else (some false)) = some r := h
  clear h
  by_cases c2 : a0_1.toList = ([] : List UInt8)
  · rw [if_pos c2] at H
    have c2b0 : (a0_1.toList == ([] : List UInt8)) = true := beq_iff_eq.mpr c2
    have c2b1 : (a0_1.toList != ([] : List UInt8)) = false := bne_eq_false_iff_eq.mpr c2
    clear c2
    obtain rfl := Option.some.inj H
    go_enter Tryz.func71, Tryz.ntmps71
    go_wp2_with (first | ((with_reducible refine gate_dst (N := 1) rfl ?_); (try (refine gate_guard (by rfl) ?_; dsimp only)); refine box_event ?hg (N := 1) ?hd (cs := #[.string a0_0, .string a0_1, .int .u8 a0_2, .int .i64 a0_3, .int .i64 a0_4, .int .i64 a0_5, .int .i64 a0_6, .string a0_7]) (t := 41) ?hr ?_; (case hd => rfl); (case hg => rfl); (case hr => first | (go_simp; done) | (go_simp; rfl)); intro gb101 hg w3 hbox hb; have n0_ := Aside0.mk (below_step (by repeat (first | (with_reducible first | exact HB.out | apply below_alloc | apply pw_below_drewN | apply below_drew1) | exact HB.out)) hb); have n1_ := Aside0.mk (hbox); have n2_ := Aside0.mk ((by rw [hg]; exact (below_size (by repeat (first | (with_reducible first | exact HB.out | apply below_alloc | apply pw_below_drewN | apply below_drew1) | exact HB.out))) : w.heap.size ≤ gb101)); have n3_ := Aside0.mk ((by rw [hg]; exact (below_size (by repeat (first | (with_reducible first | exact HB.out | apply below_alloc | apply pw_below_drewN | apply below_drew1) | exact HB.out))) : w.heap.size ≤ gb101)); clear HB; have HB := n0_; have BK101 := n1_; have GW101 := n2_; have GE101 := n3_; clear n0_ n1_ n2_ n3_; clear hb hbox hg; have hcz4_0 : w3.cell? ⟨gb101, 0, none⟩ = some (.string a0_0) := (blk_cell BK101.out 0).trans rfl; have hcz4_1 : w3.cell? ⟨gb101, 1, none⟩ = some (.string a0_1) := (blk_cell BK101.out 1).trans rfl; have hcz4_2 : w3.cell? ⟨gb101, 2, none⟩ = some (.int .u8 a0_2) := (blk_cell BK101.out 2).trans rfl; have hcz4_3 : w3.cell? ⟨gb101, 3, none⟩ = some (.int .i64 a0_3) := (blk_cell BK101.out 3).trans rfl; have hcz4_4 : w3.cell? ⟨gb101, 4, none⟩ = some (.int .i64 a0_4) := (blk_cell BK101.out 4).trans rfl; have hcz4_5 : w3.cell? ⟨gb101, 5, none⟩ = some (.int .i64 a0_5) := (blk_cell BK101.out 5).trans rfl; have hcz4_6 : w3.cell? ⟨gb101, 6, none⟩ = some (.int .i64 a0_6) := (blk_cell BK101.out 6).trans rfl; have hcz4_7 : w3.cell? ⟨gb101, 7, none⟩ = some (.string a0_7) := (blk_cell BK101.out 7).trans rfl; have hfz4_0 := blk_frozen BK101.out 0; have hfz4_1 := blk_frozen BK101.out 1; have hfz4_2 := blk_frozen BK101.out 2; have hfz4_3 := blk_frozen BK101.out 3; have hfz4_4 := blk_frozen BK101.out 4; have hfz4_5 := blk_frozen BK101.out 5; have hfz4_6 := blk_frozen BK101.out 6; have hfz4_7 := blk_frozen BK101.out 7))
    go_ret
    exact ⟨by first | rfl | (simp [errW_none, errW_some] <;> rfl) | (simp [*, errW_none, errW_some] <;> rfl), by repeat (first | (with_reducible first | exact HB.out | apply below_alloc | apply pw_below_drewN | apply below_drew1 | refine below_set ?_ GE101.out) | exact HB.out)⟩
  · rw [if_neg c2] at H
    have c2b0 : (a0_1.toList == ([] : List UInt8)) = false := beq_eq_false_iff_ne.mpr c2
    have c2b1 : (a0_1.toList != ([] : List UInt8)) = true := bne_iff_ne.mpr c2
    obtain rfl := Option.some.inj H
    go_enter Tryz.func71, Tryz.ntmps71
    go_wp2_with (first | ((with_reducible refine gate_dst (N := 1) rfl ?_); (try (refine gate_guard (by rfl) ?_; dsimp only)); refine box_event ?hg (N := 1) ?hd (cs := #[.string a0_0, .string a0_1, .int .u8 a0_2, .int .i64 a0_3, .int .i64 a0_4, .int .i64 a0_5, .int .i64 a0_6, .string a0_7]) (t := 41) ?hr ?_; (case hd => rfl); (case hg => rfl); (case hr => first | (go_simp; done) | (go_simp; rfl)); intro gb101 hg w5 hbox hb; have n0_ := Aside0.mk (below_step (by repeat (first | (with_reducible first | exact HB.out | apply below_alloc | apply pw_below_drewN | apply below_drew1) | exact HB.out)) hb); have n1_ := Aside0.mk (hbox); have n2_ := Aside0.mk ((by rw [hg]; exact (below_size (by repeat (first | (with_reducible first | exact HB.out | apply below_alloc | apply pw_below_drewN | apply below_drew1) | exact HB.out))) : w.heap.size ≤ gb101)); have n3_ := Aside0.mk ((by rw [hg]; exact (below_size (by repeat (first | (with_reducible first | exact HB.out | apply below_alloc | apply pw_below_drewN | apply below_drew1) | exact HB.out))) : w.heap.size ≤ gb101)); clear HB; have HB := n0_; have BK101 := n1_; have GW101 := n2_; have GE101 := n3_; clear n0_ n1_ n2_ n3_; clear hb hbox hg; have hcz6_0 : w5.cell? ⟨gb101, 0, none⟩ = some (.string a0_0) := (blk_cell BK101.out 0).trans rfl; have hcz6_1 : w5.cell? ⟨gb101, 1, none⟩ = some (.string a0_1) := (blk_cell BK101.out 1).trans rfl; have hcz6_2 : w5.cell? ⟨gb101, 2, none⟩ = some (.int .u8 a0_2) := (blk_cell BK101.out 2).trans rfl; have hcz6_3 : w5.cell? ⟨gb101, 3, none⟩ = some (.int .i64 a0_3) := (blk_cell BK101.out 3).trans rfl; have hcz6_4 : w5.cell? ⟨gb101, 4, none⟩ = some (.int .i64 a0_4) := (blk_cell BK101.out 4).trans rfl; have hcz6_5 : w5.cell? ⟨gb101, 5, none⟩ = some (.int .i64 a0_5) := (blk_cell BK101.out 5).trans rfl; have hcz6_6 : w5.cell? ⟨gb101, 6, none⟩ = some (.int .i64 a0_6) := (blk_cell BK101.out 6).trans rfl; have hcz6_7 : w5.cell? ⟨gb101, 7, none⟩ = some (.string a0_7) := (blk_cell BK101.out 7).trans rfl; have hfz6_0 := blk_frozen BK101.out 0; have hfz6_1 := blk_frozen BK101.out 1; have hfz6_2 := blk_frozen BK101.out 2; have hfz6_3 := blk_frozen BK101.out 3; have hfz6_4 := blk_frozen BK101.out 4; have hfz6_5 := blk_frozen BK101.out 5; have hfz6_6 := blk_frozen BK101.out 6; have hfz6_7 := blk_frozen BK101.out 7))
    go_ret
    exact ⟨by first | rfl | (simp [errW_none, errW_some] <;> rfl) | (simp [*, errW_none, errW_some] <;> rfl), by repeat (first | (with_reducible first | exact HB.out | apply below_alloc | apply pw_below_drewN | apply below_drew1 | refine below_set ?_ GE101.out) | exact HB.out)⟩
end
section
attribute [local go_sem high] eqA41
attribute [-go_sem] eqA41
def tree_kinds_2.ask (a3 a4 a5 a6 : Int) (a7 : ByteArray) : Bool := a3 == 0 && (a4 == 0 && (a5 == 0 && (a6 == 0 && (a7.toList == ([] : List UInt8)))))
def tree_kinds_2.f (a0 a1 : ByteArray) (a2 a3 a4 a5 a6 : Int) (a7 : ByteArray) : Option Bool := if tree_kinds_2.ask a3 a4 a5 a6 a7 = true then path_May.f a1 else some false
set_option maxHeartbeats 2000000 in
set_option maxRecDepth 100000 in
theorem tree_kinds_2.calls (a0 a1 : ByteArray) (a2 a3 a4 a5 a6 : Int) (a7 : ByteArray) (r : Bool) (w : World) (h : tree_kinds_2.f a0 a1 a2 a3 a4 a5 a6 a7 = some r) :
    Calls Tryz.prog 72 #[.agg #[.string a0, .string a1, .int .u8 a2, .int .i64 a3, .int .i64 a4, .int .i64 a5, .int .i64 a6, .string a7]] w fun e w' => e = .returned (.bool r) ∧ Below w.heap.size w w' := by
  have hu := Tryz.underlying41
  unfold tree_kinds_2.f at h
  by_cases c : tree_kinds_2.ask a3 a4 a5 a6 a7 = true
  · rw [if_pos c] at h
    unfold tree_kinds_2.ask at c
    simp only [Bool.and_eq_true, beq_iff_eq] at c
    obtain ⟨rfl, rfl, rfl, rfl, h7⟩ := c
    obtain rfl : a7 = ⟨#[]⟩ := ByteArray.ext (Array.toList_inj.1 (by rw [ByteArray.toList_eq] at h7; rw [h7]))
    have hcall := fun w => path_May.calls a1 r w h
    clear h h7
    go_enter Tryz.func72, Tryz.ntmps72
    go_wp2_with (fail)
    refine (hcall _).mono ?_
    rintro e w1 ⟨rfl, hb1⟩
    go_wp2
    go_ret
    exact ⟨rfl, below_then (below_alloc (Below.refl _ _) _) (by simp) hb1⟩
  · rw [if_neg c] at h
    obtain rfl := Option.some.inj h
    unfold tree_kinds_2.ask at c
    clear h
    have c2 : ¬(a3 = 0 ∧ a4 = 0 ∧ a5 = 0 ∧ a6 = 0 ∧ a7.toList = []) := by simpa only [Bool.and_eq_true, beq_iff_eq] using c
    clear c
    have c3 : (a3 == 0 && (a4 == 0 && (a5 == 0 && (a6 == 0 && (a7.toList == ([] : List UInt8)))))) = false := by simpa using c2
    clear c2
    have he : ∀ (d : Nat) (w : World), (Op.equalIn (d + 2) 41 (.agg #[.string a0, .string a1, .int .u8 a2, .int .i64 a3, .int .i64 a4, .int .i64 a5, .int .i64 a6, .string a7]) (.agg #[.string a0, .string a1, .int .u8 a2, .int .i64 0, .int .i64 0, .int .i64 0, .int .i64 0, .string ⟨#[]⟩])).run Tryz.prog w = .ok false w := by
      intro d w
      rw [eqA41]
      have e0 : (ByteArray.mk #[]).toList = ([] : List UInt8) := by rw [ByteArray.toList_eq]
      simp only [beq_self_eq_true, Bool.true_and, e0]
      exact congrArg (fun b => Result.ok b w) c3
    have he2 := he 9998
    simp only [Nat.reduceAdd] at he2
    clear c3
    go_enter Tryz.func72, Tryz.ntmps72
    go_wp2_with (fail)
    go_ret
    exact ⟨rfl, below_alloc (Below.refl _ _) _⟩
end
section
def tree_kinds_3.f (a0_0 : ByteArray) (a0_1 : ByteArray) (a0_2 : Int) (a0_3 : Int) (a0_4 : Int) (a0_5 : Int) (a0_6 : Int) (a0_7 : ByteArray) : Option (Bool) := (long_Text.f a0_1).bind fun t102 => (if t102 = true then (some (a0_7.toList == ([] : List UInt8))) else (some false))
set_option maxHeartbeats 8000000 in
set_option maxRecDepth 100000 in
theorem tree_kinds_3.calls (a0_0 : ByteArray) (a0_1 : ByteArray) (a0_2 : Int) (a0_3 : Int) (a0_4 : Int) (a0_5 : Int) (a0_6 : Int) (a0_7 : ByteArray) (r : Bool) (w : World) (h : tree_kinds_3.f a0_0 a0_1 a0_2 a0_3 a0_4 a0_5 a0_6 a0_7 = some r) :
    Calls Tryz.prog 73 #[.agg #[.string a0_0, .string a0_1, .int .u8 a0_2, .int .i64 a0_3, .int .i64 a0_4, .int .i64 a0_5, .int .i64 a0_6, .string a0_7]] w fun e w' => e = .returned (.bool r) ∧ Below w.heap.size w w' := by
  have hu41 := Tryz.underlying41
  have HB := Aside0.mk (Below.refl w.heap.size w)
  have H : ((long_Text.f a0_1).bind fun t102 => (if t102 = true then (some (a0_7.toList == ([] : List UInt8))) else (some false))) = some r := h
  clear h
  replace H := Option.bind_eq_some_iff.mp H
  obtain ⟨t102, A20, H⟩ := H
  replace H : (if t102 = true then (some (a0_7.toList == ([] : List UInt8))) else (some false)) = some r := H
  have A2 := Aside0.mk A20
  clear A20
  by_cases c3 : t102 = true
  · subst c3
    have H1 : (some (a0_7.toList == ([] : List UInt8))) = some r := by rw [if_pos rfl] at H; exact H
    clear H
    have H := H1
    clear H1
    obtain rfl := Option.some.inj H
    go_enter Tryz.func73, Tryz.ntmps73
    go_wp2_with (first | ((with_reducible refine gate_dst (N := 1) rfl ?_); refine box_event ?hg (N := 1) ?hd (cs := #[.string a0_0, .string a0_1, .int .u8 a0_2, .int .i64 a0_3, .int .i64 a0_4, .int .i64 a0_5, .int .i64 a0_6, .string a0_7]) (t := 41) ?hr ?_; (case hd => rfl); (case hg => rfl); (case hr => first | (go_simp; done) | (go_simp; rfl)); intro gb101 hg w4 hbox hb; have n0_ := Aside0.mk (below_step (by repeat (first | (with_reducible first | exact HB.out | apply below_alloc | apply pw_below_drewN | apply below_drew1) | exact HB.out)) hb); have n1_ := Aside0.mk (hbox); have n2_ := Aside0.mk ((by rw [hg]; exact (below_size (by repeat (first | (with_reducible first | exact HB.out | apply below_alloc | apply pw_below_drewN | apply below_drew1) | exact HB.out))) : w.heap.size ≤ gb101)); have n3_ := Aside0.mk ((by rw [hg]; exact (below_size (by repeat (first | (with_reducible first | exact HB.out | apply below_alloc | apply pw_below_drewN | apply below_drew1) | exact HB.out))) : w.heap.size ≤ gb101)); clear HB; have HB := n0_; have BK101 := n1_; have GW101 := n2_; have GE101 := n3_; clear n0_ n1_ n2_ n3_; clear hb hbox hg; have hcz5_0 : w4.cell? ⟨gb101, 0, none⟩ = some (.string a0_0) := (blk_cell BK101.out 0).trans rfl; have hcz5_1 : w4.cell? ⟨gb101, 1, none⟩ = some (.string a0_1) := (blk_cell BK101.out 1).trans rfl; have hcz5_2 : w4.cell? ⟨gb101, 2, none⟩ = some (.int .u8 a0_2) := (blk_cell BK101.out 2).trans rfl; have hcz5_3 : w4.cell? ⟨gb101, 3, none⟩ = some (.int .i64 a0_3) := (blk_cell BK101.out 3).trans rfl; have hcz5_4 : w4.cell? ⟨gb101, 4, none⟩ = some (.int .i64 a0_4) := (blk_cell BK101.out 4).trans rfl; have hcz5_5 : w4.cell? ⟨gb101, 5, none⟩ = some (.int .i64 a0_5) := (blk_cell BK101.out 5).trans rfl; have hcz5_6 : w4.cell? ⟨gb101, 6, none⟩ = some (.int .i64 a0_6) := (blk_cell BK101.out 6).trans rfl; have hcz5_7 : w4.cell? ⟨gb101, 7, none⟩ = some (.string a0_7) := (blk_cell BK101.out 7).trans rfl; have hfz5_0 := blk_frozen BK101.out 0; have hfz5_1 := blk_frozen BK101.out 1; have hfz5_2 := blk_frozen BK101.out 2; have hfz5_3 := blk_frozen BK101.out 3; have hfz5_4 := blk_frozen BK101.out 4; have hfz5_5 := blk_frozen BK101.out 5; have hfz5_6 := blk_frozen BK101.out 6; have hfz5_7 := blk_frozen BK101.out 7) | ((with_reducible refine gate_callee (f := 63) rfl ?_); refine goesL_ (some 5) rfl rfl Tryz.func63 (by kernel_rfl) rfl #[.string a0_1] rfl (by (try simp only [List.map_toArray, List.map_cons, List.map_nil]); first | done | rfl | (simp only [List.length_drop, List.length_take]; rfl)) ?_; (with_reducible refine (long_Text.calls a0_1 true _ A2.out).mono ?_); rintro e w' ⟨rfl, ⟨nd, rfl⟩⟩; refine ⟨_, rfl, ?_⟩))
    go_ret
    exact ⟨by first | rfl | (simp [errW_none, errW_some] <;> rfl) | (simp [*, errW_none, errW_some] <;> rfl), by repeat (first | (with_reducible first | exact HB.out | apply below_alloc | apply pw_below_drewN | apply below_drew1 | refine below_set ?_ GE101.out) | exact HB.out)⟩
  · replace c3 := Bool.eq_false_iff.mpr c3
    subst c3
    have H1 : (some false) = some r := by rw [if_neg (show ¬ (false = true) by decide)] at H; exact H
    clear H
    have H := H1
    clear H1
    obtain rfl := Option.some.inj H
    go_enter Tryz.func73, Tryz.ntmps73
    go_wp2_with (first | ((with_reducible refine gate_dst (N := 1) rfl ?_); refine box_event ?hg (N := 1) ?hd (cs := #[.string a0_0, .string a0_1, .int .u8 a0_2, .int .i64 a0_3, .int .i64 a0_4, .int .i64 a0_5, .int .i64 a0_6, .string a0_7]) (t := 41) ?hr ?_; (case hd => rfl); (case hg => rfl); (case hr => first | (go_simp; done) | (go_simp; rfl)); intro gb101 hg w6 hbox hb; have n0_ := Aside0.mk (below_step (by repeat (first | (with_reducible first | exact HB.out | apply below_alloc | apply pw_below_drewN | apply below_drew1) | exact HB.out)) hb); have n1_ := Aside0.mk (hbox); have n2_ := Aside0.mk ((by rw [hg]; exact (below_size (by repeat (first | (with_reducible first | exact HB.out | apply below_alloc | apply pw_below_drewN | apply below_drew1) | exact HB.out))) : w.heap.size ≤ gb101)); have n3_ := Aside0.mk ((by rw [hg]; exact (below_size (by repeat (first | (with_reducible first | exact HB.out | apply below_alloc | apply pw_below_drewN | apply below_drew1) | exact HB.out))) : w.heap.size ≤ gb101)); clear HB; have HB := n0_; have BK101 := n1_; have GW101 := n2_; have GE101 := n3_; clear n0_ n1_ n2_ n3_; clear hb hbox hg; have hcz7_0 : w6.cell? ⟨gb101, 0, none⟩ = some (.string a0_0) := (blk_cell BK101.out 0).trans rfl; have hcz7_1 : w6.cell? ⟨gb101, 1, none⟩ = some (.string a0_1) := (blk_cell BK101.out 1).trans rfl; have hcz7_2 : w6.cell? ⟨gb101, 2, none⟩ = some (.int .u8 a0_2) := (blk_cell BK101.out 2).trans rfl; have hcz7_3 : w6.cell? ⟨gb101, 3, none⟩ = some (.int .i64 a0_3) := (blk_cell BK101.out 3).trans rfl; have hcz7_4 : w6.cell? ⟨gb101, 4, none⟩ = some (.int .i64 a0_4) := (blk_cell BK101.out 4).trans rfl; have hcz7_5 : w6.cell? ⟨gb101, 5, none⟩ = some (.int .i64 a0_5) := (blk_cell BK101.out 5).trans rfl; have hcz7_6 : w6.cell? ⟨gb101, 6, none⟩ = some (.int .i64 a0_6) := (blk_cell BK101.out 6).trans rfl; have hcz7_7 : w6.cell? ⟨gb101, 7, none⟩ = some (.string a0_7) := (blk_cell BK101.out 7).trans rfl; have hfz7_0 := blk_frozen BK101.out 0; have hfz7_1 := blk_frozen BK101.out 1; have hfz7_2 := blk_frozen BK101.out 2; have hfz7_3 := blk_frozen BK101.out 3; have hfz7_4 := blk_frozen BK101.out 4; have hfz7_5 := blk_frozen BK101.out 5; have hfz7_6 := blk_frozen BK101.out 6; have hfz7_7 := blk_frozen BK101.out 7) | ((with_reducible refine gate_callee (f := 63) rfl ?_); refine goesL_ (some 5) rfl rfl Tryz.func63 (by kernel_rfl) rfl #[.string a0_1] rfl (by (try simp only [List.map_toArray, List.map_cons, List.map_nil]); first | done | rfl | (simp only [List.length_drop, List.length_take]; rfl)) ?_; (with_reducible refine (long_Text.calls a0_1 false _ A2.out).mono ?_); rintro e w' ⟨rfl, ⟨nd, rfl⟩⟩; refine ⟨_, rfl, ?_⟩))
    go_ret
    exact ⟨by first | rfl | (simp [errW_none, errW_some] <;> rfl) | (simp [*, errW_none, errW_some] <;> rfl), by repeat (first | (with_reducible first | exact HB.out | apply below_alloc | apply pw_below_drewN | apply below_drew1 | refine below_set ?_ GE101.out) | exact HB.out)⟩
end
section
def tree_kinds_4.f (a0_0 : ByteArray) (a0_1 : ByteArray) (a0_2 : Int) (a0_3 : Int) (a0_4 : Int) (a0_5 : Int) (a0_6 : Int) (a0_7 : ByteArray) : Option (Bool) := if a0_1.toList = ([] : List UInt8) then (some (a0_7.toList == ([] : List UInt8))) else (some false)
set_option maxHeartbeats 8000000 in
set_option maxRecDepth 100000 in
theorem tree_kinds_4.calls (a0_0 : ByteArray) (a0_1 : ByteArray) (a0_2 : Int) (a0_3 : Int) (a0_4 : Int) (a0_5 : Int) (a0_6 : Int) (a0_7 : ByteArray) (r : Bool) (w : World) (h : tree_kinds_4.f a0_0 a0_1 a0_2 a0_3 a0_4 a0_5 a0_6 a0_7 = some r) :
    Calls Tryz.prog 74 #[.agg #[.string a0_0, .string a0_1, .int .u8 a0_2, .int .i64 a0_3, .int .i64 a0_4, .int .i64 a0_5, .int .i64 a0_6, .string a0_7]] w fun e w' => e = .returned (.bool r) ∧ Below w.heap.size w w' := by
  have hu41 := Tryz.underlying41
  have HB := Aside0.mk (Below.refl w.heap.size w)
  have H : (if a0_1.toList = ([] : List UInt8) then (some (a0_7.toList == ([] : List UInt8))) else (some false)) = some r := h
  clear h
  by_cases c2 : a0_1.toList = ([] : List UInt8)
  · rw [if_pos c2] at H
    have c2b0 : (a0_1.toList == ([] : List UInt8)) = true := beq_iff_eq.mpr c2
    have c2b1 : (a0_1.toList != ([] : List UInt8)) = false := bne_eq_false_iff_eq.mpr c2
    clear c2
    obtain rfl := Option.some.inj H
    go_enter Tryz.func74, Tryz.ntmps74
    go_wp2_with (first | ((with_reducible refine gate_dst (N := 1) rfl ?_); refine box_event ?hg (N := 1) ?hd (cs := #[.string a0_0, .string a0_1, .int .u8 a0_2, .int .i64 a0_3, .int .i64 a0_4, .int .i64 a0_5, .int .i64 a0_6, .string a0_7]) (t := 41) ?hr ?_; (case hd => rfl); (case hg => rfl); (case hr => first | (go_simp; done) | (go_simp; rfl)); intro gb101 hg w3 hbox hb; have n0_ := Aside0.mk (below_step (by repeat (first | (with_reducible first | exact HB.out | apply below_alloc | apply pw_below_drewN | apply below_drew1) | exact HB.out)) hb); have n1_ := Aside0.mk (hbox); have n2_ := Aside0.mk ((by rw [hg]; exact (below_size (by repeat (first | (with_reducible first | exact HB.out | apply below_alloc | apply pw_below_drewN | apply below_drew1) | exact HB.out))) : w.heap.size ≤ gb101)); have n3_ := Aside0.mk ((by rw [hg]; exact (below_size (by repeat (first | (with_reducible first | exact HB.out | apply below_alloc | apply pw_below_drewN | apply below_drew1) | exact HB.out))) : w.heap.size ≤ gb101)); clear HB; have HB := n0_; have BK101 := n1_; have GW101 := n2_; have GE101 := n3_; clear n0_ n1_ n2_ n3_; clear hb hbox hg; have hcz4_0 : w3.cell? ⟨gb101, 0, none⟩ = some (.string a0_0) := (blk_cell BK101.out 0).trans rfl; have hcz4_1 : w3.cell? ⟨gb101, 1, none⟩ = some (.string a0_1) := (blk_cell BK101.out 1).trans rfl; have hcz4_2 : w3.cell? ⟨gb101, 2, none⟩ = some (.int .u8 a0_2) := (blk_cell BK101.out 2).trans rfl; have hcz4_3 : w3.cell? ⟨gb101, 3, none⟩ = some (.int .i64 a0_3) := (blk_cell BK101.out 3).trans rfl; have hcz4_4 : w3.cell? ⟨gb101, 4, none⟩ = some (.int .i64 a0_4) := (blk_cell BK101.out 4).trans rfl; have hcz4_5 : w3.cell? ⟨gb101, 5, none⟩ = some (.int .i64 a0_5) := (blk_cell BK101.out 5).trans rfl; have hcz4_6 : w3.cell? ⟨gb101, 6, none⟩ = some (.int .i64 a0_6) := (blk_cell BK101.out 6).trans rfl; have hcz4_7 : w3.cell? ⟨gb101, 7, none⟩ = some (.string a0_7) := (blk_cell BK101.out 7).trans rfl; have hfz4_0 := blk_frozen BK101.out 0; have hfz4_1 := blk_frozen BK101.out 1; have hfz4_2 := blk_frozen BK101.out 2; have hfz4_3 := blk_frozen BK101.out 3; have hfz4_4 := blk_frozen BK101.out 4; have hfz4_5 := blk_frozen BK101.out 5; have hfz4_6 := blk_frozen BK101.out 6; have hfz4_7 := blk_frozen BK101.out 7))
    go_ret
    exact ⟨by first | rfl | (simp [errW_none, errW_some] <;> rfl) | (simp [*, errW_none, errW_some] <;> rfl), by repeat (first | (with_reducible first | exact HB.out | apply below_alloc | apply pw_below_drewN | apply below_drew1 | refine below_set ?_ GE101.out) | exact HB.out)⟩
  · rw [if_neg c2] at H
    have c2b0 : (a0_1.toList == ([] : List UInt8)) = false := beq_eq_false_iff_ne.mpr c2
    have c2b1 : (a0_1.toList != ([] : List UInt8)) = true := bne_iff_ne.mpr c2
    obtain rfl := Option.some.inj H
    go_enter Tryz.func74, Tryz.ntmps74
    go_wp2_with (first | ((with_reducible refine gate_dst (N := 1) rfl ?_); refine box_event ?hg (N := 1) ?hd (cs := #[.string a0_0, .string a0_1, .int .u8 a0_2, .int .i64 a0_3, .int .i64 a0_4, .int .i64 a0_5, .int .i64 a0_6, .string a0_7]) (t := 41) ?hr ?_; (case hd => rfl); (case hg => rfl); (case hr => first | (go_simp; done) | (go_simp; rfl)); intro gb101 hg w5 hbox hb; have n0_ := Aside0.mk (below_step (by repeat (first | (with_reducible first | exact HB.out | apply below_alloc | apply pw_below_drewN | apply below_drew1) | exact HB.out)) hb); have n1_ := Aside0.mk (hbox); have n2_ := Aside0.mk ((by rw [hg]; exact (below_size (by repeat (first | (with_reducible first | exact HB.out | apply below_alloc | apply pw_below_drewN | apply below_drew1) | exact HB.out))) : w.heap.size ≤ gb101)); have n3_ := Aside0.mk ((by rw [hg]; exact (below_size (by repeat (first | (with_reducible first | exact HB.out | apply below_alloc | apply pw_below_drewN | apply below_drew1) | exact HB.out))) : w.heap.size ≤ gb101)); clear HB; have HB := n0_; have BK101 := n1_; have GW101 := n2_; have GE101 := n3_; clear n0_ n1_ n2_ n3_; clear hb hbox hg; have hcz6_0 : w5.cell? ⟨gb101, 0, none⟩ = some (.string a0_0) := (blk_cell BK101.out 0).trans rfl; have hcz6_1 : w5.cell? ⟨gb101, 1, none⟩ = some (.string a0_1) := (blk_cell BK101.out 1).trans rfl; have hcz6_2 : w5.cell? ⟨gb101, 2, none⟩ = some (.int .u8 a0_2) := (blk_cell BK101.out 2).trans rfl; have hcz6_3 : w5.cell? ⟨gb101, 3, none⟩ = some (.int .i64 a0_3) := (blk_cell BK101.out 3).trans rfl; have hcz6_4 : w5.cell? ⟨gb101, 4, none⟩ = some (.int .i64 a0_4) := (blk_cell BK101.out 4).trans rfl; have hcz6_5 : w5.cell? ⟨gb101, 5, none⟩ = some (.int .i64 a0_5) := (blk_cell BK101.out 5).trans rfl; have hcz6_6 : w5.cell? ⟨gb101, 6, none⟩ = some (.int .i64 a0_6) := (blk_cell BK101.out 6).trans rfl; have hcz6_7 : w5.cell? ⟨gb101, 7, none⟩ = some (.string a0_7) := (blk_cell BK101.out 7).trans rfl; have hfz6_0 := blk_frozen BK101.out 0; have hfz6_1 := blk_frozen BK101.out 1; have hfz6_2 := blk_frozen BK101.out 2; have hfz6_3 := blk_frozen BK101.out 3; have hfz6_4 := blk_frozen BK101.out 4; have hfz6_5 := blk_frozen BK101.out 5; have hfz6_6 := blk_frozen BK101.out 6; have hfz6_7 := blk_frozen BK101.out 7))
    go_ret
    exact ⟨by first | rfl | (simp [errW_none, errW_some] <;> rfl) | (simp [*, errW_none, errW_some] <;> rfl), by repeat (first | (with_reducible first | exact HB.out | apply below_alloc | apply pw_below_drewN | apply below_drew1 | refine below_set ?_ GE101.out) | exact HB.out)⟩
end
section
open Go.Proofs.YtpedagpcblnnhaaGreatY
def tree_One.ask (a0 a1 : ByteArray) (a2 a3 a4 a5 a6 : Int) (a7 : ByteArray) : Option Bool :=
  if a2 = 48 then tree_kinds_1.f a0 a1 a2 a3 a4 a5 a6 a7 else if a2 = 49 then tree_kinds_2.f a0 a1 a2 a3 a4 a5 a6 a7 else if a2 = 50 then tree_kinds_3.f a0 a1 a2 a3 a4 a5 a6 a7 else if a2 = 53 then tree_kinds_4.f a0 a1 a2 a3 a4 a5 a6 a7 else some false
def tree_One.f (a0 a1 : ByteArray) (a2 a3 a4 a5 a6 : Int) (a7 : ByteArray) : Option Bool :=
  (tree_One.ask a0 a1 a2 a3 a4 a5 a6 a7).bind fun q => (path_May.f a0).bind fun m => some (q && m && (decide (a3 ≥ 0) && decide (a3 ≤ 4095)) && (decide (a4 ≥ 0) && decide (a4 ≤ 1099511627776)) && (decide (a5 ≥ 0) && decide (a5 ≤ 1099511627776)) && (decide (a6 ≥ 0) && decide (a6 ≤ 1099511627776)))
theorem tree_in.at_ (a0 a1 : Int) (w : World) : Calls Tryz.prog 50 #[.int .i64 a0, .int .i64 a1] w fun e w' => e = .returned (.bool (decide (a0 ≥ 0) && decide (a0 ≤ a1))) ∧ Drawn0 w w' := by
  refine tree_in.calls a0 a1 _ w ?_
  unfold tree_in.f
  by_cases h : a0 ≥ 0
  · simp [h]
  · simp [h]
theorem tree_kinds.at3 (a2 : Int) (lv : Value) (hl : ∀ (W : World) (b : Nat), W.heap[b]? = some kindsObj → (Instr.lookup 77 (.map (some b)) (.int .u8 a2) true).run Tryz.prog W = .ok lv W) (g : Nat) (o : Obj) (v : Value) (w : World) (hb : w.heap[g]? = some o) (hc : w.cell? ⟨g, 2, none⟩ = some v) :
    Calls Tryz.prog 48 #[] w fun e w' => ∃ b, e = .returned (.map (some b)) ∧ Aside0 (Below w.heap.size w w') ∧ w'.cell? ⟨g, 2, none⟩ = some v ∧
      (Instr.lookup 77 (.map (some b)) (.int .u8 a2) true).run Tryz.prog w' = .ok lv w' ∧
      (Instr.lookup 77 (.map (some b)) (.int .u8 a2) true).run Tryz.prog w'.drew = .ok lv w'.drew ∧
      (Instr.lookup 77 (.map (some b)) (.int .u8 a2) true).run Tryz.prog w'.drew.drew = .ok lv w'.drew.drew := by
  refine (tree_kinds.at_ w).mono ?_
  rintro e w' ⟨rfl, rfl⟩
  have h0 : (w.alloc kindsObj).heap[w.heap.size]? = some kindsObj := heap_alloc_new w _
  have hB : Below w.heap.size w (w.alloc kindsObj) := below_alloc (Below.refl _ _) _
  have hg : (w.alloc kindsObj).heap[g]? = w.heap[g]? := hB.block g (blk_lt hb)
  refine ⟨_, rfl, ⟨hB⟩, ?_, hl _ _ h0, hl _ _ h0, hl _ _ h0⟩
  rw [← hc]
  simp only [World.cell?, hg]
set_option maxHeartbeats 2000000 in
set_option maxRecDepth 100000 in
theorem tree_One.some_ (gf : Nat) (q m b3 b4 b5 b6 : Bool) (a0 a1 : ByteArray) (a2 a3 a4 a5 a6 : Int) (a7 : ByteArray) (w : World)
    (hl : ∀ (W : World) (b : Nat), W.heap[b]? = some kindsObj → (Instr.lookup 77 (.map (some b)) (.int .u8 a2) true).run Tryz.prog W = .ok (.tuple #[.func (.func gf) #[] #[], .bool true]) W)
    (hg : ∀ args W, (callFunc gf args).run Tryz.prog W = .ok (.enter gf args) W)
    (hq : ∀ W, Calls Tryz.prog gf #[.agg #[.string a0, .string a1, .int .u8 a2, .int .i64 a3, .int .i64 a4, .int .i64 a5, .int .i64 a6, .string a7]] W fun e w' => e = .returned (.bool q) ∧ Below W.heap.size W w')
    (h3 : ∀ w, Calls Tryz.prog 50 #[.int .i64 a3, .int .i64 4095] w fun e w' => e = .returned (.bool b3) ∧ Drawn0 w w')
    (h4 : ∀ w, Calls Tryz.prog 50 #[.int .i64 a4, .int .i64 1099511627776] w fun e w' => e = .returned (.bool b4) ∧ Drawn0 w w')
    (h5 : ∀ w, Calls Tryz.prog 50 #[.int .i64 a5, .int .i64 1099511627776] w fun e w' => e = .returned (.bool b5) ∧ Drawn0 w w')
    (h6 : ∀ w, Calls Tryz.prog 50 #[.int .i64 a6, .int .i64 1099511627776] w fun e w' => e = .returned (.bool b6) ∧ Drawn0 w w')
    (hm : path_May.f a0 = some m) :
    Calls Tryz.prog 30 #[.agg #[.string a0, .string a1, .int .u8 a2, .int .i64 a3, .int .i64 a4, .int .i64 a5, .int .i64 a6, .string a7]] w fun e w' => e = .returned (.bool (q && m && b3 && b4 && b5 && b6)) ∧ Below w.heap.size w w' := by
  have HM := Aside0.mk hm
  have HQ := Aside0.mk hq
  have H3 := Aside0.mk h3
  have H4 := Aside0.mk h4
  have H5 := Aside0.mk h5
  have H6 := Aside0.mk h6
  clear hm hq h3 h4 h5 h6
  go_enter Tryz.func30, Tryz.ntmps30
  go_wp2_with (fail)
  go_region_held3 (fun w' => w'.cell? ⟨w.heap.size, 2, none⟩ = some (.int .u8 a2)) (go_keep) (first | (go_at_call 48; refine (tree_kinds.at3 a2 _ hl w.heap.size _ (.int .u8 a2) _ (by exact heap_alloc_new w _) (by exact (blk_cell (heap_alloc_new w _) 2))).mono ?_; rintro e w1 ⟨b, rfl, HB1, hc1, hl1, hl2, hl3⟩))
  have hbox1 : w1.heap[w.heap.size]? = some (.cells #[.string a0, .string a1, .int .u8 a2, .int .i64 a3, .int .i64 a4, .int .i64 a5, .int .i64 a6, .string a7] 41 (0, 0)) := blk_below (by exact heap_alloc_new w _) HB1.out
  have HBW := Aside0.mk (below_step (below_drew1 (below_alloc (Below.refl w.heap.size w) _)) HB1.out)
  have hz0 : w1.cell? ⟨w.heap.size, 0, none⟩ = some (.string a0) := (blk_cell hbox1 0).trans rfl
  have hz1 : w1.cell? ⟨w.heap.size, 1, none⟩ = some (.string a1) := (blk_cell hbox1 1).trans rfl
  have hz2 : w1.cell? ⟨w.heap.size, 2, none⟩ = some (.int .u8 a2) := (blk_cell hbox1 2).trans rfl
  have hz3 : w1.cell? ⟨w.heap.size, 3, none⟩ = some (.int .i64 a3) := (blk_cell hbox1 3).trans rfl
  have hz4 : w1.cell? ⟨w.heap.size, 4, none⟩ = some (.int .i64 a4) := (blk_cell hbox1 4).trans rfl
  have hz5 : w1.cell? ⟨w.heap.size, 5, none⟩ = some (.int .i64 a5) := (blk_cell hbox1 5).trans rfl
  have hz6 : w1.cell? ⟨w.heap.size, 6, none⟩ = some (.int .i64 a6) := (blk_cell hbox1 6).trans rfl
  have hz7 : w1.cell? ⟨w.heap.size, 7, none⟩ = some (.string a7) := (blk_cell hbox1 7).trans rfl
  have HX1 := Aside0.mk hbox1
  clear hbox1 HB1 hl1 hl2 hl3 hc1 hl
  go_wp2_with (fail)
  refine (HQ.out _).mono ?_
  rintro e w2 ⟨rfl, hb2⟩
  have hbox2 := blk_below HX1.out hb2
  have HB2 := Aside0.mk (below_step HBW.out hb2)
  clear HBW
  have HBW := HB2
  clear HB2 hb2
  clear hz0 hz1 hz2 hz3 hz4 hz5 hz6 hz7
  have hz0 : w2.cell? ⟨w.heap.size, 0, none⟩ = some (.string a0) := (blk_cell hbox2 0).trans rfl
  have hz1 : w2.cell? ⟨w.heap.size, 1, none⟩ = some (.string a1) := (blk_cell hbox2 1).trans rfl
  have hz2 : w2.cell? ⟨w.heap.size, 2, none⟩ = some (.int .u8 a2) := (blk_cell hbox2 2).trans rfl
  have hz3 : w2.cell? ⟨w.heap.size, 3, none⟩ = some (.int .i64 a3) := (blk_cell hbox2 3).trans rfl
  have hz4 : w2.cell? ⟨w.heap.size, 4, none⟩ = some (.int .i64 a4) := (blk_cell hbox2 4).trans rfl
  have hz5 : w2.cell? ⟨w.heap.size, 5, none⟩ = some (.int .i64 a5) := (blk_cell hbox2 5).trans rfl
  have hz6 : w2.cell? ⟨w.heap.size, 6, none⟩ = some (.int .i64 a6) := (blk_cell hbox2 6).trans rfl
  have hz7 : w2.cell? ⟨w.heap.size, 7, none⟩ = some (.string a7) := (blk_cell hbox2 7).trans rfl
  have HX2 := Aside0.mk hbox2
  clear hbox2
  cases q
  · go_wp2_with (fail)
    go_ret
    exact ⟨by simp, by repeat (first | (with_reducible first | exact HBW.out | apply pw_below_drewN | apply below_drew1) | exact HBW.out)⟩
  go_wp2_with (fail)
  refine (path_May.calls a0 m _ HM.out).mono ?_
  rintro e w3 ⟨rfl, hb3⟩
  have hbox3 := blk_below HX2.out hb3
  have HB3 := Aside0.mk (below_step HBW.out hb3)
  clear HBW
  have HBW := HB3
  clear HB3 hb3
  clear hz0 hz1 hz2 hz3 hz4 hz5 hz6 hz7
  have hz0 : w3.cell? ⟨w.heap.size, 0, none⟩ = some (.string a0) := (blk_cell hbox3 0).trans rfl
  have hz1 : w3.cell? ⟨w.heap.size, 1, none⟩ = some (.string a1) := (blk_cell hbox3 1).trans rfl
  have hz2 : w3.cell? ⟨w.heap.size, 2, none⟩ = some (.int .u8 a2) := (blk_cell hbox3 2).trans rfl
  have hz3 : w3.cell? ⟨w.heap.size, 3, none⟩ = some (.int .i64 a3) := (blk_cell hbox3 3).trans rfl
  have hz4 : w3.cell? ⟨w.heap.size, 4, none⟩ = some (.int .i64 a4) := (blk_cell hbox3 4).trans rfl
  have hz5 : w3.cell? ⟨w.heap.size, 5, none⟩ = some (.int .i64 a5) := (blk_cell hbox3 5).trans rfl
  have hz6 : w3.cell? ⟨w.heap.size, 6, none⟩ = some (.int .i64 a6) := (blk_cell hbox3 6).trans rfl
  have hz7 : w3.cell? ⟨w.heap.size, 7, none⟩ = some (.string a7) := (blk_cell hbox3 7).trans rfl
  have HX3 := Aside0.mk hbox3
  clear hbox3
  cases m
  · go_wp2_with (fail)
    go_ret
    exact ⟨by simp, by repeat (first | (with_reducible first | exact HBW.out | apply pw_below_drewN | apply below_drew1) | exact HBW.out)⟩
  go_wp2_with (fail)
  refine (H3.out _).mono ?_
  rintro e w' ⟨rfl, nd3, rfl⟩
  cases b3
  · go_wp2_with (fail)
    go_ret
    exact ⟨by simp, by repeat (first | (with_reducible first | exact HBW.out | apply pw_below_drewN | apply below_drew1) | exact HBW.out)⟩
  go_wp2_with (fail)
  refine (H4.out _).mono ?_
  rintro e w' ⟨rfl, nd4, rfl⟩
  cases b4
  · go_wp2_with (fail)
    go_ret
    exact ⟨by simp, by repeat (first | (with_reducible first | exact HBW.out | apply pw_below_drewN | apply below_drew1) | exact HBW.out)⟩
  go_wp2_with (fail)
  refine (H5.out _).mono ?_
  rintro e w' ⟨rfl, nd5, rfl⟩
  cases b5
  · go_wp2_with (fail)
    go_ret
    exact ⟨by simp, by repeat (first | (with_reducible first | exact HBW.out | apply pw_below_drewN | apply below_drew1) | exact HBW.out)⟩
  go_wp2_with (fail)
  refine (H6.out _).mono ?_
  rintro e w' ⟨rfl, nd6, rfl⟩
  cases b6
  · go_wp2_with (fail)
    go_ret
    exact ⟨by simp, by repeat (first | (with_reducible first | exact HBW.out | apply pw_below_drewN | apply below_drew1) | exact HBW.out)⟩
  go_wp2_with (fail)
  go_ret
  exact ⟨by simp, by repeat (first | (with_reducible first | exact HBW.out | apply pw_below_drewN | apply below_drew1) | exact HBW.out)⟩
set_option maxHeartbeats 2000000 in
set_option maxRecDepth 100000 in
theorem tree_One.none_ (a0 a1 : ByteArray) (a2 a3 a4 a5 a6 : Int) (a7 : ByteArray) (w : World) (fv : Value)
    (hl : ∀ (W : World) (b : Nat), W.heap[b]? = some kindsObj → (Instr.lookup 77 (.map (some b)) (.int .u8 a2) true).run Tryz.prog W = .ok (.tuple #[fv, .bool false]) W) :
    Calls Tryz.prog 30 #[.agg #[.string a0, .string a1, .int .u8 a2, .int .i64 a3, .int .i64 a4, .int .i64 a5, .int .i64 a6, .string a7]] w fun e w' => e = .returned (.bool false) ∧ Below w.heap.size w w' := by
  go_enter Tryz.func30, Tryz.ntmps30
  go_wp2_with (fail)
  go_region_held3 (fun w' => w'.cell? ⟨w.heap.size, 2, none⟩ = some (.int .u8 a2)) (go_keep) (first | (go_at_call 48; refine (tree_kinds.at3 a2 _ hl w.heap.size _ (.int .u8 a2) _ (by exact heap_alloc_new w _) (by exact (blk_cell (heap_alloc_new w _) 2))).mono ?_; rintro e w1 ⟨b, rfl, HB1, hc1, hl1, hl2, hl3⟩))
  have HBW := Aside0.mk (below_step (below_drew1 (below_alloc (Below.refl w.heap.size w) _)) HB1.out)
  clear hl1 hl2 hl3 hc1 hl HB1
  go_wp2_with (fail)
  go_ret
  exact ⟨by simp, by repeat (first | (with_reducible first | exact HBW.out | apply pw_below_drewN | apply below_drew1) | exact HBW.out)⟩
theorem kinds_look (W : World) (b : Nat) (hb : W.heap[b]? = some kindsObj) (k : Int) (i gf : Nat) (h : Instr.findNow (.int .u8) (.int .u8 k) [{ key := .int .u8 48, val := .func (.func 71) #[] #[], born := 0 }, { key := .int .u8 49, val := .func (.func 72) #[] #[], born := 1 }, { key := .int .u8 50, val := .func (.func 73) #[] #[], born := 2 }, { key := .int .u8 53, val := .func (.func 74) #[] #[], born := 3 }] 0 = some (some (i, .func (.func gf) #[] #[]))) :
    (Instr.lookup 77 (.map (some b)) (.int .u8 k) true).run Tryz.prog W = .ok (.tuple #[.func (.func gf) #[] #[], .bool true]) W :=
  run_lookup_found (P := Tryz.prog) (T := 77) true Tryz.underlying77 Tryz.underlying5 (by simp [MapKept.IsKey]) hb h
set_option maxHeartbeats 2000000 in
theorem tree_One.calls (a0_0 : ByteArray) (a0_1 : ByteArray) (a0_2 : Int) (a0_3 : Int) (a0_4 : Int) (a0_5 : Int) (a0_6 : Int) (a0_7 : ByteArray) (r : Bool) (w : World) (h : tree_One.f a0_0 a0_1 a0_2 a0_3 a0_4 a0_5 a0_6 a0_7 = some r) :
    Calls Tryz.prog 30 #[.agg #[.string a0_0, .string a0_1, .int .u8 a0_2, .int .i64 a0_3, .int .i64 a0_4, .int .i64 a0_5, .int .i64 a0_6, .string a0_7]] w fun e w' => e = .returned (.bool r) ∧ Below w.heap.size w w' := by
  unfold tree_One.f at h
  obtain ⟨q, hq, h⟩ := Option.bind_eq_some_iff.mp h
  obtain ⟨m, hm, h⟩ := Option.bind_eq_some_iff.mp h
  have hr := Option.some.inj h
  clear h
  have h3 := tree_in.at_ a0_3 4095
  have h4 := tree_in.at_ a0_4 1099511627776
  have h5 := tree_in.at_ a0_5 1099511627776
  have h6 := tree_in.at_ a0_6 1099511627776
  rw [← hr]
  unfold tree_One.ask at hq
  by_cases c1 : a0_2 = 48
  · subst c1
    rw [if_pos rfl] at hq
    exact tree_One.some_ _ q m _ _ _ _ a0_0 a0_1 _ a0_3 a0_4 a0_5 a0_6 a0_7 w (fun W b hb => kinds_look W b hb 48 0 _ rfl) (fun _ _ => by kernel_rfl) (fun W => tree_kinds_1.calls a0_0 a0_1 48 a0_3 a0_4 a0_5 a0_6 a0_7 q W hq) h3 h4 h5 h6 hm
  · rw [if_neg c1] at hq
    by_cases c2 : a0_2 = 49
    · subst c2
      rw [if_pos rfl] at hq
      exact tree_One.some_ _ q m _ _ _ _ a0_0 a0_1 _ a0_3 a0_4 a0_5 a0_6 a0_7 w (fun W b hb => kinds_look W b hb 49 1 _ rfl) (fun _ _ => by kernel_rfl) (fun W => tree_kinds_2.calls a0_0 a0_1 49 a0_3 a0_4 a0_5 a0_6 a0_7 q W hq) h3 h4 h5 h6 hm
    · rw [if_neg c2] at hq
      by_cases c3 : a0_2 = 50
      · subst c3
        rw [if_pos rfl] at hq
        exact tree_One.some_ _ q m _ _ _ _ a0_0 a0_1 _ a0_3 a0_4 a0_5 a0_6 a0_7 w (fun W b hb => kinds_look W b hb 50 2 _ rfl) (fun _ _ => by kernel_rfl) (fun W => tree_kinds_3.calls a0_0 a0_1 50 a0_3 a0_4 a0_5 a0_6 a0_7 q W hq) h3 h4 h5 h6 hm
      · rw [if_neg c3] at hq
        by_cases c4 : a0_2 = 53
        · subst c4
          rw [if_pos rfl] at hq
          exact tree_One.some_ _ q m _ _ _ _ a0_0 a0_1 _ a0_3 a0_4 a0_5 a0_6 a0_7 w (fun W b hb => kinds_look W b hb 53 3 _ rfl) (fun _ _ => by kernel_rfl) (fun W => tree_kinds_4.calls a0_0 a0_1 53 a0_3 a0_4 a0_5 a0_6 a0_7 q W hq) h3 h4 h5 h6 hm
        · rw [if_neg c4] at hq
          obtain rfl := Option.some.inj hq
          simp only [Bool.false_and]
          refine tree_One.none_ a0_0 a0_1 _ a0_3 a0_4 a0_5 a0_6 a0_7 w .nilFunc (fun W b hb => run_lookup_lacks (P := Tryz.prog) (T := 77) true Tryz.underlying77 Tryz.underlying5 (by simp [MapKept.IsKey]) hb ?_ ?_)
          · have e1 : (a0_2 == 48) = false := beq_eq_false_iff_ne.2 c1
            have e2 : (a0_2 == 49) = false := beq_eq_false_iff_ne.2 c2
            have e3 : (a0_2 == 50) = false := beq_eq_false_iff_ne.2 c3
            have e4 : (a0_2 == 53) = false := beq_eq_false_iff_ne.2 c4
            simp [Instr.findNow, Instr.sameNow, e1, e2, e3, e4]
          · go_simp
end
section
open Go.Proofs.YtpedagpcblnnhaaGreatY
def seen (p : List S41) (s : ByteArray) : Int := ((p.find? fun x => x.f0.toList == s.toList).map (·.f2)).getD 0
def tree_May.go (k : Nat) : List S41 → ByteArray → List S41 → Option Bool
  | _, _, [] => some true
  | pre, last, n :: t => (tree_One.f n.f0 n.f1 n.f2 n.f3 n.f4 n.f5 n.f6 n.f7).bind fun o =>
    if o = true then if (Op.bytesLess n.f0.toList last.toList || n.f0.toList == last.toList) = true then some false else
      (path_Parent.f k n.f0).bind fun up => if (up.2 && !(seen pre up.1 == 53)) = true then some false else if (n.f2 == 49 && !(seen pre n.f1 == 48)) = true then some false else tree_May.go k (pre ++ [n]) n.f0 t
    else some false
def tree_May.f (k : Nat) (l0 : List S41) : Option Bool := if (l0.length : Int) > 20 then some false else tree_May.go k [] ⟨#[]⟩ l0
theorem tree_May.go_mono (k : Nat) : ∀ (l pre : List S41) (last : ByteArray), LeO (tree_May.go k pre last l) (tree_May.go (k + 1) pre last l)
  | [], _, _ => by unfold tree_May.go; exact LeO.refl _
  | n :: t, pre, last => by
    unfold tree_May.go
    refine LeO.bind (LeO.refl _) fun o => ?_
    refine LeO.ite ?_ (LeO.refl _)
    refine LeO.ite (LeO.refl _) ?_
    refine LeO.bind (path_Parent.mono _ _) fun up => ?_
    refine LeO.ite (LeO.refl _) ?_
    refine LeO.ite (LeO.refl _) ?_
    exact tree_May.go_mono k t (pre ++ [n]) n.f0
theorem tree_May.mono : ∀ l0 k, LeO (tree_May.f k l0) (tree_May.f (k + 1) l0) := by
  intro l0 k
  unfold tree_May.f
  exact LeO.ite (LeO.refl _) (tree_May.go_mono k _ _ _)
def entry (x : S41) (i : Nat) : MapEntry := { key := .string x.f0, val := .int .u8 x.f2, born := i }
def entries (p : List S41) (j : Nat) : List MapEntry := (p.zipIdx j).map fun x => entry x.1 x.2
theorem entries_find (s : ByteArray) : ∀ (p : List S41) (j i : Nat), (Instr.findNow .string (.string s) (entries p j) i = some none ∧ (p.find? fun x => x.f0.toList == s.toList) = none) ∨ ∃ q x, Instr.findNow .string (.string s) (entries p j) i = some (some (q, .int .u8 x.f2)) ∧ (p.find? fun x => x.f0.toList == s.toList) = some x
  | [], _, _ => .inl ⟨rfl, rfl⟩
  | x :: p, j, i => by
    have hd : entries (x :: p) j = entry x j :: entries p (j + 1) := rfl
    have hs : Instr.sameNow .string (.string s) (entry x j).key = some (x.f0.toList == s.toList) := by
      obtain ⟨r, h1, h2⟩ := MapKept.sameNow_of_keys (d := .string) (a := .string s) (b := (entry x j).key) (by simp [MapKept.IsKey]) (by simp [MapKept.IsKey, entry])
      rw [h1]
      congr 1
      by_cases e : s = x.f0
      · subst e
        rw [h2.2 rfl]
        simp
      · have h3 : (x.f0.toList == s.toList) = false := beq_eq_false_iff_ne.2 fun q => e (by rw [ByteArray.toList_eq, ByteArray.toList_eq] at q; exact (ByteArray.ext (Array.toList_inj.1 q)).symm)
        rw [h3]
        cases r with
        | false => rfl
        | true => have h4 := h2.1 rfl; injection h4 with h5; exact absurd h5 e
    rw [hd]
    cases hb : (x.f0.toList == s.toList)
    · rw [hb] at hs
      have hf : Instr.findNow .string (.string s) (entry x j :: entries p (j + 1)) i = Instr.findNow .string (.string s) (entries p (j + 1)) (i + 1) := by
        show (match Instr.sameNow .string (.string s) (entry x j).key with | some true => _ | some false => _ | none => _) = _
        rw [hs]
      have hp : ((x :: p).find? fun x => x.f0.toList == s.toList) = p.find? fun x => x.f0.toList == s.toList := by rw [List.find?_cons_of_neg]; simp [hb]
      rw [hf, hp]
      exact entries_find s p (j + 1) (i + 1)
    · rw [hb] at hs
      refine .inr ⟨i, x, ?_, by rw [List.find?_cons_of_pos]; exact hb⟩
      show (match Instr.sameNow .string (.string s) (entry x j).key with | some true => _ | some false => _ | none => _) = _
      rw [hs]
      rfl
theorem entries_push (p : List S41) (n : S41) : (entries p 0).toArray.push (entry n p.length) = (entries (p ++ [n]) 0).toArray := by
  unfold entries
  rw [List.zipIdx_append, List.map_append]
  simp
def MapOf (w : World) (b : Nat) (p : List S41) : Prop := w.heap[b]? = some (.map (entries p 0).toArray p.length)
theorem MapOf.look {w : World} {b : Nat} {p : List S41} (h : MapOf w b p) (s : ByteArray) : (Instr.lookup 59 (.map (some b)) (.string s) false).run Tryz.prog w = .ok (.int .u8 (seen p s)) w := by
  have hk : MapKept.IsKey .string (.string s) := by simp [MapKept.IsKey]
  rcases entries_find s p 0 0 with ⟨h1, h2⟩ | ⟨q, x, h1, h2⟩
  · have := run_lookup_lacks (P := Tryz.prog) (T := 59) (v := .int .u8 0) false Tryz.underlying59 Tryz.underlying9 hk h h1 (by go_simp)
    rw [this]
    simp [seen, h2]
  · have := run_lookup_found (P := Tryz.prog) (T := 59) false Tryz.underlying59 Tryz.underlying9 hk h h1
    rw [this]
    simp [seen, h2]
set_option maxRecDepth 100000 in
theorem MapOf.put {w : World} {b : Nat} {p : List S41} (h : MapOf w b p) (n : S41) (hn : ∀ x ∈ p, x.f0.toList ≠ n.f0.toList) : ∃ w', (∀ m, (Instr.mapUpdate 59 (.map (some b)) (.string n.f0) (.int .u8 n.f2)).run Tryz.prog (w.drewN m) = .ok () (w'.drewN m)) ∧ MapOf w' b (p ++ [n]) ∧ w.grownBy w' (some b) := by
  have hk : MapKept.IsKey .string (.string n.f0) := by simp [MapKept.IsKey]
  have hf : Instr.findNow .string (.string n.f0) (entries p 0) 0 = some none := by
    rcases entries_find n.f0 p 0 0 with ⟨h1, _⟩ | ⟨q, x, _, h2⟩
    · exact h1
    · have := List.find?_some h2
      exact absurd (by simpa using this) (hn x (List.mem_of_find?_eq_some h2))
  refine ⟨w.putObj b (.map (entries (p ++ [n]) 0).toArray (p.length + 1)), fun m => ?_, ?_, ?_⟩
  · have := run_mapUpdate_new (P := Tryz.prog) (T := 59) (w := w.drewN m) (v := .int .u8 n.f2) Tryz.underlying59 Tryz.underlying9 hk h hf
    rw [this]
    congr 1
    show (w.drewN m).putObj b _ = _
    rw [← entries_push]
    rfl
  · have hlt := blk_lt h
    unfold MapOf World.putObj
    simp [hlt]
  · exact ⟨rfl, rfl, rfl, by simp [World.putObj], fun i _ hi => by unfold World.putObj; simp [show b ≠ i from fun e => hi (by rw [e])]⟩
set_option maxHeartbeats 4000000 in
set_option maxRecDepth 100000 in
theorem tree_May.calls (k : Nat) (A0 : Option Addr) (c0 : Nat) (l0 : List S41) (r : Bool) (w : World) (hr0 : Kd.C k41 w A0 l0.length l0) (hc0 : l0.length ≤ c0) (h : tree_May.f k l0 = some r) :
    Calls Tryz.prog 24 #[.slice A0 l0.length c0] w fun e w' => e = .returned (.bool r) ∧ Below w.heap.size w w' := by
  have hmm := @run_makeMap Tryz.prog
  have hu := Tryz.underlying41
  have hlm : l0.length ≤ 9223372036854775807 := hr0.2.1
  unfold tree_May.f at h
  by_cases hz : (l0.length : Int) > 20
  · rw [if_pos hz] at h
    obtain rfl := Option.some.inj h
    have z1 : decide ((20 : Int) < (l0.length : Int)) = true := decide_eq_true hz
    have z2 : decide (20 < l0.length) = true := decide_eq_true (by omega)
    clear hz h hr0
    go_enter Tryz.func24, Tryz.ntmps24
    go_wp2
    go_ret
    exact ⟨rfl, Below.refl _ _⟩
  · rw [if_neg hz] at h
    have z1 : decide ((20 : Int) < (l0.length : Int)) = false := decide_eq_false hz
    have z2 : decide (20 < l0.length) = false := decide_eq_false (by omega)
    have HR := Aside0.mk hr0
    have HG := Aside0.mk h
    clear hz h hr0
    go_enter Tryz.func24, Tryz.ntmps24
    go_wp2
    go_loopw [4, 6, 7, 8, 15] (fun v4 _ _ _ v15 wr => ∃ (i : Nat) (last : ByteArray), v4 = .string last ∧ v15 = .int .i64 i ∧ i ≤ l0.length ∧ Aside0 (tree_May.go k (l0.take i) last (l0.drop i) = some r) ∧ Aside0 (MapOf wr w.heap.size (l0.take i)) ∧ Aside0 (∀ x ∈ l0.take i, x.f0.toList = last.toList ∨ Op.bytesLess x.f0.toList last.toList = true) ∧ Aside0 (Below w.heap.size w wr)) (fun _ _ _ _ v15 _ => l0.length - (intOf v15).toNat)
    case atStart => exact ⟨0, ⟨#[]⟩, rfl, rfl, Nat.zero_le _, HG, ⟨heap_alloc_new w _⟩, ⟨by simp⟩, ⟨below_alloc (Below.refl _ _) _⟩⟩
    case round =>
      obtain ⟨i, last, rfl, rfl, hi, HG, HM, HO, HB⟩ := hrel
      by_cases hlt : i < l0.length
      · have hnn : (0 : Int) ≤ (i : Int) := by omega
        have hlt2 : (i : Int) < (l0.length : Int) := by omega
        obtain ⟨ad, rfl, x0, x1, x2, x3, x4, x5, x6, x7⟩ := at_T41 (Kd.C_below HR.out HB.out) (i : Int) (by omega) (by omega)
        simp only [Int.toNat_natCast] at x0 x1 x2 x3 x4 x5 x6 x7
        have hg : rd_T41 l0 (i : Int) = l0[i] := by unfold rd_T41; simp [List.getD, List.getElem?_eq_getElem hlt]
        have htk : l0.take (i + 1) = l0.take i ++ [l0[i]] := by rw [List.take_succ_eq_append_getElem hlt]
        have hdr : l0.drop i = l0[i] :: l0.drop (i + 1) := List.drop_eq_getElem_cons hlt
        rw [← hg] at htk hdr
        have hgo := HG.out
        rw [hdr] at hgo
        unfold tree_May.go at hgo
        have HT := Aside0.mk htk
        clear hg htk HG hdr
        have HM0 := Aside0.mk HM.out
        generalize rd_T41 l0 (i : Int) = n at *
        obtain ⟨o, ho, hgo⟩ := Option.bind_eq_some_iff.mp hgo
        have HO1 := Aside0.mk ho
        have HGO := Aside0.mk hgo
        clear ho hgo
        clear hgo
        go_wp2_with (fail)
        refine (tree_One.calls n.f0 n.f1 n.f2 n.f3 n.f4 n.f5 n.f6 n.f7 o _ HO1.out).mono ?_
        rintro e w2 ⟨rfl, hb⟩
        have hbox : w2.heap[wr.heap.size]? = some (.cells #[.string n.f0, .string n.f1, .int .u8 n.f2, .int .i64 n.f3, .int .i64 n.f4, .int .i64 n.f5, .int .i64 n.f6, .string n.f7] 41 (0, 0)) := blk_below (heap_alloc_new wr _) hb
        have HBN := Aside0.mk (below_step (below_then HB.out HB.out.size (below_alloc (Below.refl _ _) _)) hb)
        have HMN := Aside0.mk (show MapOf w2 w.heap.size (l0.take i) from (hb.block _ (by have := blk_lt HM.out; simp; omega)).trans ((heap_alloc_old wr _ (blk_lt HM.out)).trans HM.out))
        clear HB HM x0 x1 x2 x3 x4 x5 x6 x7
        have HB := HBN
        have HM := HMN
        clear HBN HMN hb
        have HX := Aside0.mk hbox
        have hz0 : w2.cell? ⟨wr.heap.size, 0, none⟩ = some (.string n.f0) := (blk_cell hbox 0).trans rfl
        have hz1 : w2.cell? ⟨wr.heap.size, 1, none⟩ = some (.string n.f1) := (blk_cell hbox 1).trans rfl
        have hz2 : w2.cell? ⟨wr.heap.size, 2, none⟩ = some (.int .u8 n.f2) := (blk_cell hbox 2).trans rfl
        have hz3 : w2.cell? ⟨wr.heap.size, 3, none⟩ = some (.int .i64 n.f3) := (blk_cell hbox 3).trans rfl
        have hz4 : w2.cell? ⟨wr.heap.size, 4, none⟩ = some (.int .i64 n.f4) := (blk_cell hbox 4).trans rfl
        have hz5 : w2.cell? ⟨wr.heap.size, 5, none⟩ = some (.int .i64 n.f5) := (blk_cell hbox 5).trans rfl
        have hz6 : w2.cell? ⟨wr.heap.size, 6, none⟩ = some (.int .i64 n.f6) := (blk_cell hbox 6).trans rfl
        have hz7 : w2.cell? ⟨wr.heap.size, 7, none⟩ = some (.string n.f7) := (blk_cell hbox 7).trans rfl
        clear hbox
        have hgo := HGO.out
        clear HGO HO1
        cases o
        · rw [if_neg (by decide)] at hgo
          obtain rfl := Option.some.inj hgo
          clear hgo
          go_wp2
          go_ret
          exact ⟨rfl, by repeat (first | (with_reducible first | exact HB.out | apply pw_below_drewN | apply below_drew1) | exact HB.out)⟩
        rw [if_pos rfl] at hgo
        cases hq : (Op.bytesLess n.f0.toList last.toList || n.f0.toList == last.toList)
        rotate_left
        · rw [if_pos hq] at hgo
          obtain rfl := Option.some.inj hgo
          clear hgo
          go_wp2
          go_ret
          exact ⟨rfl, by repeat (first | (with_reducible first | exact HB.out | apply pw_below_drewN | apply below_drew1) | exact HB.out)⟩
        rw [if_neg (by rw [hq]; decide)] at hgo
        obtain ⟨⟨u1, u2⟩, hup, hgo⟩ := Option.bind_eq_some_iff.mp hgo
        have HUP := Aside0.mk hup
        have HGO := Aside0.mk hgo
        clear hup hgo
        go_wp2_with (fail)
        refine (path_Parent.calls k n.f0 u1 u2 _ HUP.out).mono ?_
        rintro e w3 ⟨rfl, hb⟩
        have hbox : w3.heap[wr.heap.size]? = some (.cells #[.string n.f0, .string n.f1, .int .u8 n.f2, .int .i64 n.f3, .int .i64 n.f4, .int .i64 n.f5, .int .i64 n.f6, .string n.f7] 41 (0, 0)) := blk_below HX.out hb
        have HBN := Aside0.mk (below_step HB.out hb)
        have HMN := Aside0.mk (show MapOf w3 w.heap.size (l0.take i) from (hb.block _ (blk_lt HM.out)).trans HM.out)
        clear HB HM HX hz0 hz1 hz2 hz3 hz4 hz5 hz6 hz7
        have HB := HBN
        have HM := HMN
        clear HBN HMN hb
        have HX := Aside0.mk hbox
        have hz0 : w3.cell? ⟨wr.heap.size, 0, none⟩ = some (.string n.f0) := (blk_cell hbox 0).trans rfl
        have hz1 : w3.cell? ⟨wr.heap.size, 1, none⟩ = some (.string n.f1) := (blk_cell hbox 1).trans rfl
        have hz2 : w3.cell? ⟨wr.heap.size, 2, none⟩ = some (.int .u8 n.f2) := (blk_cell hbox 2).trans rfl
        have hz3 : w3.cell? ⟨wr.heap.size, 3, none⟩ = some (.int .i64 n.f3) := (blk_cell hbox 3).trans rfl
        have hz4 : w3.cell? ⟨wr.heap.size, 4, none⟩ = some (.int .i64 n.f4) := (blk_cell hbox 4).trans rfl
        have hz5 : w3.cell? ⟨wr.heap.size, 5, none⟩ = some (.int .i64 n.f5) := (blk_cell hbox 5).trans rfl
        have hz6 : w3.cell? ⟨wr.heap.size, 6, none⟩ = some (.int .i64 n.f6) := (blk_cell hbox 6).trans rfl
        have hz7 : w3.cell? ⟨wr.heap.size, 7, none⟩ = some (.string n.f7) := (blk_cell hbox 7).trans rfl
        clear hbox
        have hgo := HGO.out
        clear HGO HUP
        have hlk := HM.out.look u1
        have hlk2 := HM.out.look n.f1
        generalize seen (l0.take i) u1 = sp at hlk hgo
        generalize seen (l0.take i) n.f1 = sk at hlk2 hgo
        cases c1 : (u2 && !(sp == 53))
        rotate_left
        · rw [if_pos c1] at hgo
          obtain rfl := Option.some.inj hgo
          rw [Bool.and_eq_true] at c1
          obtain ⟨rfl, c2⟩ := c1
          have c3 : (sp == 53) = false := by simpa using c2
          have c4 : decide (sp = 53) = false := by simpa using c2
          clear hgo c2
          go_wp2
          go_ret
          exact ⟨rfl, by repeat (first | (with_reducible first | exact HB.out | apply pw_below_drewN | apply below_drew1) | exact HB.out)⟩
        rw [if_neg (by rw [c1]; decide)] at hgo
        have HGO := Aside0.mk hgo
        clear hgo
        have c5 : u2 = false ∨ (u2 = true ∧ sp = 53) := by
          cases u2 with
          | false => exact .inl rfl
          | true => exact .inr ⟨rfl, by simpa using c1⟩
        clear c1
        rcases c5 with rfl | ⟨rfl, rfl⟩
        · have hgo := HGO.out
          clear HGO
          cases c6 : (n.f2 == 49 && !(sk == 48))
          rotate_left
          · rw [if_pos c6] at hgo
            obtain rfl := Option.some.inj hgo
            rw [Bool.and_eq_true] at c6
            obtain ⟨c7, c8⟩ := c6
            have c9 : n.f2 = 49 := by simpa using c7
            have d1 : (sk == 48) = false := by simpa using c8
            clear hgo c8 c7
            rw [c9] at hz2
            go_wp2
            go_ret
            exact ⟨rfl, by repeat (first | (with_reducible first | exact HB.out | apply pw_below_drewN | apply below_drew1) | exact HB.out)⟩
          rw [if_neg (by rw [c6]; decide)] at hgo
          have HGO := Aside0.mk hgo
          clear hgo
          have HN := Aside0.mk hq
          have c7 : (n.f2 == 49) = false ∨ (n.f2 = 49 ∧ sk = 48) := by
            cases q : (n.f2 == 49) with
            | false => exact .inl rfl
            | true => exact .inr ⟨by simpa using q, by rw [q] at c6; simpa using c6⟩
          clear c6 hq
          have hnd : ∀ x ∈ l0.take i, x.f0.toList ≠ n.f0.toList := by
            intro x hx e
            have hq := HN.out
            simp only [Bool.or_eq_false_iff, beq_eq_false_iff_ne, ne_eq] at hq
            rcases HO.out x hx with h1 | h1
            · exact hq.2 (e ▸ h1)
            · rw [e] at h1; rw [h1] at hq; cases hq.1
          obtain ⟨w4, hmu, hm4, hg4⟩ := HM.out.put n hnd
          have hmu0 : (Instr.mapUpdate 59 (.map (some w.heap.size)) (.string n.f0) (.int .u8 n.f2)).run Tryz.prog w3 = .ok () w4 := hmu 0
          have hmu1 : (Instr.mapUpdate 59 (.map (some w.heap.size)) (.string n.f0) (.int .u8 n.f2)).run Tryz.prog w3.drew = .ok () w4.drew := hmu 1
          have hmu2 : (Instr.mapUpdate 59 (.map (some w.heap.size)) (.string n.f0) (.int .u8 n.f2)).run Tryz.prog w3.drew.drew = .ok () w4.drew.drew := hmu 2
          have HM4 := Aside0.mk hm4
          have HG4 := Aside0.mk hg4
          have hne : w.heap.size ≠ wr.heap.size := by
            have := blk_lt HM0.out
            omega
          have hbx4 : w4.heap[wr.heap.size]? = some (.cells #[.string n.f0, .string n.f1, .int .u8 n.f2, .int .i64 n.f3, .int .i64 n.f4, .int .i64 n.f5, .int .i64 n.f6, .string n.f7] 41 (0, 0)) := (hg4.block _ (blk_lt HX.out) (by intro e; injection e with e; exact hne e.symm)).trans HX.out
          have hy0 : w4.cell? ⟨wr.heap.size, 0, none⟩ = some (.string n.f0) := (blk_cell hbx4 0).trans rfl
          have hy2 : w4.cell? ⟨wr.heap.size, 2, none⟩ = some (.int .u8 n.f2) := (blk_cell hbx4 2).trans rfl
          clear hnd hm4 hg4 hbx4 hmu
          rcases c7 with c7 | ⟨c7, rfl⟩
          · go_wp2_with (fail)
            go_region
            go_wp2
            go_roundw
            case rel =>
              refine ⟨i + 1, n.f0, rfl, by go_num, by omega, ⟨by rw [HT.out]; exact HGO.out⟩, ⟨by rw [HT.out]; exact HM4.out⟩, ⟨?_⟩, ⟨?_⟩⟩
              · rw [HT.out]
                intro x hx
                have hq := HN.out
                simp only [Bool.or_eq_false_iff, beq_eq_false_iff_ne, ne_eq] at hq
                rcases List.mem_append.1 hx with hx | hx
                · have hl := less_total hq.1 hq.2
                  rcases HO.out x hx with h1 | h1
                  · exact .inr (h1 ▸ hl)
                  · exact .inr (less_trans h1 hl)
                · rw [List.mem_singleton] at hx; exact .inl (by rw [hx])
              · exact below_drew1 (pw_below_grown HB.out (some w.heap.size) HB.out.size HG4.out (by intro k e; injection e with e; omega))
            case measure => simp [intOf]; omega
          · rw [c7] at hz2 hmu0 hmu1 hmu2 hy2
            go_wp2_with (fail)
            go_region
            go_wp2
            go_roundw
            case rel =>
              refine ⟨i + 1, n.f0, rfl, by go_num, by omega, ⟨by rw [HT.out]; exact HGO.out⟩, ⟨by rw [HT.out]; exact HM4.out⟩, ⟨?_⟩, ⟨?_⟩⟩
              · rw [HT.out]
                intro x hx
                have hq := HN.out
                simp only [Bool.or_eq_false_iff, beq_eq_false_iff_ne, ne_eq] at hq
                rcases List.mem_append.1 hx with hx | hx
                · have hl := less_total hq.1 hq.2
                  rcases HO.out x hx with h1 | h1
                  · exact .inr (h1 ▸ hl)
                  · exact .inr (less_trans h1 hl)
                · rw [List.mem_singleton] at hx; exact .inl (by rw [hx])
              · exact below_drew1 (pw_below_grown HB.out (some w.heap.size) HB.out.size HG4.out (by intro k e; injection e with e; omega))
            case measure => simp [intOf]; omega
        · have hgo := HGO.out
          clear HGO
          cases c6 : (n.f2 == 49 && !(sk == 48))
          rotate_left
          · rw [if_pos c6] at hgo
            obtain rfl := Option.some.inj hgo
            rw [Bool.and_eq_true] at c6
            obtain ⟨c7, c8⟩ := c6
            have c9 : n.f2 = 49 := by simpa using c7
            have d1 : (sk == 48) = false := by simpa using c8
            clear hgo c8 c7
            rw [c9] at hz2
            go_wp2
            go_ret
            exact ⟨rfl, by repeat (first | (with_reducible first | exact HB.out | apply pw_below_drewN | apply below_drew1) | exact HB.out)⟩
          rw [if_neg (by rw [c6]; decide)] at hgo
          have HGO := Aside0.mk hgo
          clear hgo
          have HN := Aside0.mk hq
          have c7 : (n.f2 == 49) = false ∨ (n.f2 = 49 ∧ sk = 48) := by
            cases q : (n.f2 == 49) with
            | false => exact .inl rfl
            | true => exact .inr ⟨by simpa using q, by rw [q] at c6; simpa using c6⟩
          clear c6 hq
          have hnd : ∀ x ∈ l0.take i, x.f0.toList ≠ n.f0.toList := by
            intro x hx e
            have hq := HN.out
            simp only [Bool.or_eq_false_iff, beq_eq_false_iff_ne, ne_eq] at hq
            rcases HO.out x hx with h1 | h1
            · exact hq.2 (e ▸ h1)
            · rw [e] at h1; rw [h1] at hq; cases hq.1
          obtain ⟨w4, hmu, hm4, hg4⟩ := HM.out.put n hnd
          have hmu0 : (Instr.mapUpdate 59 (.map (some w.heap.size)) (.string n.f0) (.int .u8 n.f2)).run Tryz.prog w3 = .ok () w4 := hmu 0
          have hmu1 : (Instr.mapUpdate 59 (.map (some w.heap.size)) (.string n.f0) (.int .u8 n.f2)).run Tryz.prog w3.drew = .ok () w4.drew := hmu 1
          have hmu2 : (Instr.mapUpdate 59 (.map (some w.heap.size)) (.string n.f0) (.int .u8 n.f2)).run Tryz.prog w3.drew.drew = .ok () w4.drew.drew := hmu 2
          have HM4 := Aside0.mk hm4
          have HG4 := Aside0.mk hg4
          have hne : w.heap.size ≠ wr.heap.size := by
            have := blk_lt HM0.out
            omega
          have hbx4 : w4.heap[wr.heap.size]? = some (.cells #[.string n.f0, .string n.f1, .int .u8 n.f2, .int .i64 n.f3, .int .i64 n.f4, .int .i64 n.f5, .int .i64 n.f6, .string n.f7] 41 (0, 0)) := (hg4.block _ (blk_lt HX.out) (by intro e; injection e with e; exact hne e.symm)).trans HX.out
          have hy0 : w4.cell? ⟨wr.heap.size, 0, none⟩ = some (.string n.f0) := (blk_cell hbx4 0).trans rfl
          have hy2 : w4.cell? ⟨wr.heap.size, 2, none⟩ = some (.int .u8 n.f2) := (blk_cell hbx4 2).trans rfl
          clear hnd hm4 hg4 hbx4 hmu
          rcases c7 with c7 | ⟨c7, rfl⟩
          · go_wp2_with (fail)
            go_region
            go_wp2
            go_roundw
            case rel =>
              refine ⟨i + 1, n.f0, rfl, by go_num, by omega, ⟨by rw [HT.out]; exact HGO.out⟩, ⟨by rw [HT.out]; exact HM4.out⟩, ⟨?_⟩, ⟨?_⟩⟩
              · rw [HT.out]
                intro x hx
                have hq := HN.out
                simp only [Bool.or_eq_false_iff, beq_eq_false_iff_ne, ne_eq] at hq
                rcases List.mem_append.1 hx with hx | hx
                · have hl := less_total hq.1 hq.2
                  rcases HO.out x hx with h1 | h1
                  · exact .inr (h1 ▸ hl)
                  · exact .inr (less_trans h1 hl)
                · rw [List.mem_singleton] at hx; exact .inl (by rw [hx])
              · exact below_drew1 (pw_below_grown HB.out (some w.heap.size) HB.out.size HG4.out (by intro k e; injection e with e; omega))
            case measure => simp [intOf]; omega
          · rw [c7] at hz2 hmu0 hmu1 hmu2 hy2
            go_wp2_with (fail)
            go_region
            go_wp2
            go_roundw
            case rel =>
              refine ⟨i + 1, n.f0, rfl, by go_num, by omega, ⟨by rw [HT.out]; exact HGO.out⟩, ⟨by rw [HT.out]; exact HM4.out⟩, ⟨?_⟩, ⟨?_⟩⟩
              · rw [HT.out]
                intro x hx
                have hq := HN.out
                simp only [Bool.or_eq_false_iff, beq_eq_false_iff_ne, ne_eq] at hq
                rcases List.mem_append.1 hx with hx | hx
                · have hl := less_total hq.1 hq.2
                  rcases HO.out x hx with h1 | h1
                  · exact .inr (h1 ▸ hl)
                  · exact .inr (less_trans h1 hl)
                · rw [List.mem_singleton] at hx; exact .inl (by rw [hx])
              · exact below_drew1 (pw_below_grown HB.out (some w.heap.size) HB.out.size HG4.out (by intro k e; injection e with e; omega))
            case measure => simp [intOf]; omega
      · obtain rfl : i = l0.length := by omega
        have hgo := HG.out
        rw [List.drop_length] at hgo
        unfold tree_May.go at hgo
        obtain rfl := Option.some.inj hgo
        clear hgo HG
        go_wp2
        go_ret
        exact ⟨rfl, HB.out⟩
end
end Go.Proofs.YtpedagpcblnnhaaGreat.X
