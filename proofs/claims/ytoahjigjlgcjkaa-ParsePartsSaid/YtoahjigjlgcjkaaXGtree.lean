import Derived.Test.YtoahjigjlgcjkaaXK
import Derived.Test.YtoahjigjlgcjkaaXE23
import Derived.Test.YtoahjigjlgcjkaaXGlong
import Derived.Test.YtoahjigjlgcjkaaXGpath
import Derived.Test.YtoahjigjlgcjkaaYAll
import Derived.BigQuiet
import Derived.Deep.QuietTactic
import Derived.Deep.RegionHeld3
import Derived.Laws.EntriesVeiled
import Derived.WalkSpells
namespace Go.Proofs.Ytoahjigjlgcjkaa.X
open Go.RowKit Go.Proofs.YtoahjigjlgcjkaaW.PrintWords Go.Proofs.YtoahjigjlgcjkaaW.PrintLast Go.Proofs.YtoahjigjlgcjkaaW.PrintMore
attribute [local go_sem] max2_int min2_int max_two min_two
set_option linter.unusedVariables false
set_option linter.unusedSimpArgs false

open Go.Proofs.YtoahjigjlgcjkaaY
/-- The map that kinds makes. -/
def kindsObj : Obj := .map #[{ key := .int .u8 48, val := .func (.func 56) #[] #[], born := 0 }, { key := .int .u8 49, val := .func (.func 57) #[] #[], born := 1 }, { key := .int .u8 50, val := .func (.func 58) #[] #[], born := 2 }, { key := .int .u8 53, val := .func (.func 59) #[] #[], born := 3 }] 4
set_option maxHeartbeats 2000000 in
set_option maxRecDepth 100000 in
theorem tree_kinds.at_ (w : World) :
    Calls Try.prog 33 #[] w fun e w' => e = .returned (.map (some w.heap.size)) ∧ w.alloc kindsObj = w' := by
  have hmm := @run_makeMap Try.prog
  have h1 := run_mapUpdate_new (P := Try.prog) (T := 61) (w := w.alloc (.map #[] 0)) (b := w.heap.size) (k := .int .u8 48) (v := .func (.func 56) #[] #[]) Try.underlying61 Try.underlying5 (by simp [MapKept.IsKey]) (heap_alloc_new w _) rfl
  simp only [putObj_alloc, List.push_toArray, List.cons_append, List.nil_append, Nat.zero_add, Nat.reduceAdd] at h1
  have h2 := run_mapUpdate_new (P := Try.prog) (T := 61) (w := w.alloc (.map #[{ key := .int .u8 48, val := .func (.func 56) #[] #[], born := 0 }] 1)) (b := w.heap.size) (k := .int .u8 49) (v := .func (.func 57) #[] #[]) Try.underlying61 Try.underlying5 (by simp [MapKept.IsKey]) (heap_alloc_new w _) rfl
  simp only [putObj_alloc, List.push_toArray, List.cons_append, List.nil_append, Nat.zero_add, Nat.reduceAdd] at h2
  have h3 := run_mapUpdate_new (P := Try.prog) (T := 61) (w := w.alloc (.map #[{ key := .int .u8 48, val := .func (.func 56) #[] #[], born := 0 }, { key := .int .u8 49, val := .func (.func 57) #[] #[], born := 1 }] 2)) (b := w.heap.size) (k := .int .u8 50) (v := .func (.func 58) #[] #[]) Try.underlying61 Try.underlying5 (by simp [MapKept.IsKey]) (heap_alloc_new w _) rfl
  simp only [putObj_alloc, List.push_toArray, List.cons_append, List.nil_append, Nat.zero_add, Nat.reduceAdd] at h3
  have h4 := run_mapUpdate_new (P := Try.prog) (T := 61) (w := w.alloc (.map #[{ key := .int .u8 48, val := .func (.func 56) #[] #[], born := 0 }, { key := .int .u8 49, val := .func (.func 57) #[] #[], born := 1 }, { key := .int .u8 50, val := .func (.func 58) #[] #[], born := 2 }] 3)) (b := w.heap.size) (k := .int .u8 53) (v := .func (.func 59) #[] #[]) Try.underlying61 Try.underlying5 (by simp [MapKept.IsKey]) (heap_alloc_new w _) rfl
  simp only [putObj_alloc, List.push_toArray, List.cons_append, List.nil_append, Nat.zero_add, Nat.reduceAdd] at h4
  go_enter Try.func33, Try.ntmps33
  go_wp2
  go_ret
  exact ⟨rfl, rfl⟩
end Go.Proofs.Ytoahjigjlgcjkaa.X
namespace Go.Proofs.Ytoahjigjlgcjkaa.X
open Go.RowKit Go.Proofs.YtoahjigjlgcjkaaW.PrintWords Go.Proofs.YtoahjigjlgcjkaaW.PrintLast Go.Proofs.YtoahjigjlgcjkaaW.PrintMore
attribute [local go_sem] max2_int min2_int max_two min_two
set_option linter.unusedVariables false
set_option linter.unusedSimpArgs false

/-! ### tree_in: function 34 -/
def tree_in.f (a0 : Int) (a1 : Int) : Option (Bool) := if a0 ≥ 0 then (some (decide (a0 ≤ a1))) else (some false)
set_option maxHeartbeats 8000000 in
set_option maxRecDepth 100000 in
theorem tree_in.calls (a0 : Int) (a1 : Int) (r : Bool) (w : World) (h : tree_in.f a0 a1 = some r) :
    Calls Try.prog 34 #[.int .i64 a0, .int .i64 a1] w fun e w' => e = .returned (.bool r) ∧ Drawn0 w w' := by
  have H : (if a0 ≥ 0 then (some (decide (a0 ≤ a1))) else (some false)) = some r := h
  clear h
  by_cases c3 : a0 ≥ 0
  · rw [if_pos c3] at H
    have c3b0 : decide (0 ≤ a0) = true := decide_eq_true c3
    clear c3
    obtain rfl := Option.some.inj H
    go_enter Try.func34, Try.ntmps34
    go_wp2
    go_ret
    exact ⟨by first | rfl | (simp; done) | (simp [*]; done), by repeat (first | exact Drawn0.refl _ | apply Drawn0.step)⟩
  · rw [if_neg c3] at H
    have c3b0 : decide (0 ≤ a0) = false := decide_eq_false c3
    clear c3
    obtain rfl := Option.some.inj H
    go_enter Try.func34, Try.ntmps34
    go_wp2
    go_ret
    exact ⟨by first | rfl | (simp; done) | (simp [*]; done), by repeat (first | exact Drawn0.refl _ | apply Drawn0.step)⟩

end Go.Proofs.Ytoahjigjlgcjkaa.X
namespace Go.Proofs.Ytoahjigjlgcjkaa.X
open Go.RowKit Go.Proofs.YtoahjigjlgcjkaaW.PrintWords Go.Proofs.YtoahjigjlgcjkaaW.PrintLast Go.Proofs.YtoahjigjlgcjkaaW.PrintMore
attribute [local go_sem] max2_int min2_int max_two min_two
set_option linter.unusedVariables false
set_option linter.unusedSimpArgs false

/-! ### tree_kinds_1: function 56 -/
def tree_kinds_1.f (a0_0 : ByteArray) (a0_1 : ByteArray) (a0_2 : Int) (a0_3 : Int) (a0_4 : Int) (a0_5 : Int) (a0_6 : Int) (a0_7 : ByteArray) : Option (Bool) := if a0_1.toList = ([] : List UInt8) then (some (decide ((a0_7.size : Int) ≤ 4000))) else (some false)
set_option maxHeartbeats 8000000 in
set_option maxRecDepth 100000 in
theorem tree_kinds_1.calls (a0_0 : ByteArray) (a0_1 : ByteArray) (a0_2 : Int) (a0_3 : Int) (a0_4 : Int) (a0_5 : Int) (a0_6 : Int) (a0_7 : ByteArray) (r : Bool) (w : World) (h : tree_kinds_1.f a0_0 a0_1 a0_2 a0_3 a0_4 a0_5 a0_6 a0_7 = some r) :
    Calls Try.prog 56 #[.agg #[.string a0_0, .string a0_1, .int .u8 a0_2, .int .i64 a0_3, .int .i64 a0_4, .int .i64 a0_5, .int .i64 a0_6, .string a0_7]] w fun e w' => e = .returned (.bool r) ∧ Below w.heap.size w w' := by
  have hu23 := Try.underlying23
  have HB := Aside0.mk (Below.refl w.heap.size w)
  have H : (if a0_1.toList = ([] : List UInt8) then (some (decide ((a0_7.size : Int) ≤ 4000))) else (some false)) = some r := h
  clear h
  by_cases c2 : a0_1.toList = ([] : List UInt8)
  · rw [if_pos c2] at H
    have c2b0 : (a0_1.toList == ([] : List UInt8)) = true := beq_iff_eq.mpr c2
    have c2b1 : (a0_1.toList != ([] : List UInt8)) = false := bne_eq_false_iff_eq.mpr c2
    clear c2
    obtain rfl := Option.some.inj H
    go_enter Try.func56, Try.ntmps56
    go_wp2_with (first | ((with_reducible refine gate_dst (N := 1) rfl ?_); (try (refine gate_guard (by rfl) ?_; dsimp only)); refine box_event ?hg (N := 1) ?hd (cs := #[.string a0_0, .string a0_1, .int .u8 a0_2, .int .i64 a0_3, .int .i64 a0_4, .int .i64 a0_5, .int .i64 a0_6, .string a0_7]) (t := 23) ?hr ?_; (case hd => rfl); (case hg => rfl); (case hr => first | (go_simp; done) | (go_simp; rfl)); intro gb101 hg w3 hbox hb; have n0_ := Aside0.mk (below_step (by repeat (first | (with_reducible first | exact HB.out | apply below_alloc | apply pw_below_drewN | apply below_drew1) | exact HB.out)) hb); have n1_ := Aside0.mk (hbox); have n2_ := Aside0.mk ((by rw [hg]; exact (below_size (by repeat (first | (with_reducible first | exact HB.out | apply below_alloc | apply pw_below_drewN | apply below_drew1) | exact HB.out))) : w.heap.size ≤ gb101)); have n3_ := Aside0.mk ((by rw [hg]; exact (below_size (by repeat (first | (with_reducible first | exact HB.out | apply below_alloc | apply pw_below_drewN | apply below_drew1) | exact HB.out))) : w.heap.size ≤ gb101)); clear HB; have HB := n0_; have BK101 := n1_; have GW101 := n2_; have GE101 := n3_; clear n0_ n1_ n2_ n3_; clear hb hbox hg; have hcz4_0 : w3.cell? ⟨gb101, 0, none⟩ = some (.string a0_0) := (blk_cell BK101.out 0).trans rfl; have hcz4_1 : w3.cell? ⟨gb101, 1, none⟩ = some (.string a0_1) := (blk_cell BK101.out 1).trans rfl; have hcz4_2 : w3.cell? ⟨gb101, 2, none⟩ = some (.int .u8 a0_2) := (blk_cell BK101.out 2).trans rfl; have hcz4_3 : w3.cell? ⟨gb101, 3, none⟩ = some (.int .i64 a0_3) := (blk_cell BK101.out 3).trans rfl; have hcz4_4 : w3.cell? ⟨gb101, 4, none⟩ = some (.int .i64 a0_4) := (blk_cell BK101.out 4).trans rfl; have hcz4_5 : w3.cell? ⟨gb101, 5, none⟩ = some (.int .i64 a0_5) := (blk_cell BK101.out 5).trans rfl; have hcz4_6 : w3.cell? ⟨gb101, 6, none⟩ = some (.int .i64 a0_6) := (blk_cell BK101.out 6).trans rfl; have hcz4_7 : w3.cell? ⟨gb101, 7, none⟩ = some (.string a0_7) := (blk_cell BK101.out 7).trans rfl; have hfz4_0 := blk_frozen BK101.out 0; have hfz4_1 := blk_frozen BK101.out 1; have hfz4_2 := blk_frozen BK101.out 2; have hfz4_3 := blk_frozen BK101.out 3; have hfz4_4 := blk_frozen BK101.out 4; have hfz4_5 := blk_frozen BK101.out 5; have hfz4_6 := blk_frozen BK101.out 6; have hfz4_7 := blk_frozen BK101.out 7))
    go_ret
    exact ⟨by first | rfl | (simp [errW_none, errW_some] <;> rfl) | (simp [*, errW_none, errW_some] <;> rfl), by repeat (first | (with_reducible first | exact HB.out | apply below_alloc | apply pw_below_drewN | apply below_drew1 | refine below_set ?_ GE101.out) | exact HB.out)⟩
  · rw [if_neg c2] at H
    have c2b0 : (a0_1.toList == ([] : List UInt8)) = false := beq_eq_false_iff_ne.mpr c2
    have c2b1 : (a0_1.toList != ([] : List UInt8)) = true := bne_iff_ne.mpr c2
    obtain rfl := Option.some.inj H
    go_enter Try.func56, Try.ntmps56
    go_wp2_with (first | ((with_reducible refine gate_dst (N := 1) rfl ?_); (try (refine gate_guard (by rfl) ?_; dsimp only)); refine box_event ?hg (N := 1) ?hd (cs := #[.string a0_0, .string a0_1, .int .u8 a0_2, .int .i64 a0_3, .int .i64 a0_4, .int .i64 a0_5, .int .i64 a0_6, .string a0_7]) (t := 23) ?hr ?_; (case hd => rfl); (case hg => rfl); (case hr => first | (go_simp; done) | (go_simp; rfl)); intro gb101 hg w5 hbox hb; have n0_ := Aside0.mk (below_step (by repeat (first | (with_reducible first | exact HB.out | apply below_alloc | apply pw_below_drewN | apply below_drew1) | exact HB.out)) hb); have n1_ := Aside0.mk (hbox); have n2_ := Aside0.mk ((by rw [hg]; exact (below_size (by repeat (first | (with_reducible first | exact HB.out | apply below_alloc | apply pw_below_drewN | apply below_drew1) | exact HB.out))) : w.heap.size ≤ gb101)); have n3_ := Aside0.mk ((by rw [hg]; exact (below_size (by repeat (first | (with_reducible first | exact HB.out | apply below_alloc | apply pw_below_drewN | apply below_drew1) | exact HB.out))) : w.heap.size ≤ gb101)); clear HB; have HB := n0_; have BK101 := n1_; have GW101 := n2_; have GE101 := n3_; clear n0_ n1_ n2_ n3_; clear hb hbox hg; have hcz6_0 : w5.cell? ⟨gb101, 0, none⟩ = some (.string a0_0) := (blk_cell BK101.out 0).trans rfl; have hcz6_1 : w5.cell? ⟨gb101, 1, none⟩ = some (.string a0_1) := (blk_cell BK101.out 1).trans rfl; have hcz6_2 : w5.cell? ⟨gb101, 2, none⟩ = some (.int .u8 a0_2) := (blk_cell BK101.out 2).trans rfl; have hcz6_3 : w5.cell? ⟨gb101, 3, none⟩ = some (.int .i64 a0_3) := (blk_cell BK101.out 3).trans rfl; have hcz6_4 : w5.cell? ⟨gb101, 4, none⟩ = some (.int .i64 a0_4) := (blk_cell BK101.out 4).trans rfl; have hcz6_5 : w5.cell? ⟨gb101, 5, none⟩ = some (.int .i64 a0_5) := (blk_cell BK101.out 5).trans rfl; have hcz6_6 : w5.cell? ⟨gb101, 6, none⟩ = some (.int .i64 a0_6) := (blk_cell BK101.out 6).trans rfl; have hcz6_7 : w5.cell? ⟨gb101, 7, none⟩ = some (.string a0_7) := (blk_cell BK101.out 7).trans rfl; have hfz6_0 := blk_frozen BK101.out 0; have hfz6_1 := blk_frozen BK101.out 1; have hfz6_2 := blk_frozen BK101.out 2; have hfz6_3 := blk_frozen BK101.out 3; have hfz6_4 := blk_frozen BK101.out 4; have hfz6_5 := blk_frozen BK101.out 5; have hfz6_6 := blk_frozen BK101.out 6; have hfz6_7 := blk_frozen BK101.out 7))
    go_ret
    exact ⟨by first | rfl | (simp [errW_none, errW_some] <;> rfl) | (simp [*, errW_none, errW_some] <;> rfl), by repeat (first | (with_reducible first | exact HB.out | apply below_alloc | apply pw_below_drewN | apply below_drew1 | refine below_set ?_ GE101.out) | exact HB.out)⟩

end Go.Proofs.Ytoahjigjlgcjkaa.X
namespace Go.Proofs.Ytoahjigjlgcjkaa.X
open Go.RowKit Go.Proofs.YtoahjigjlgcjkaaW.PrintWords Go.Proofs.YtoahjigjlgcjkaaW.PrintLast Go.Proofs.YtoahjigjlgcjkaaW.PrintMore
attribute [local go_sem] max2_int min2_int max_two min_two
set_option linter.unusedVariables false
set_option linter.unusedSimpArgs false

attribute [local go_sem high] eqA23
attribute [-go_sem] eqA23
def tree_kinds_2.ask (a3 a4 a5 a6 : Int) (a7 : ByteArray) : Bool := a3 == 0 && (a4 == 0 && (a5 == 0 && (a6 == 0 && (a7.toList == ([] : List UInt8)))))
def tree_kinds_2.f (a0 a1 : ByteArray) (a2 a3 a4 a5 a6 : Int) (a7 : ByteArray) : Option Bool := if tree_kinds_2.ask a3 a4 a5 a6 a7 = true then path_May.f a1 else some false
set_option maxHeartbeats 2000000 in
set_option maxRecDepth 100000 in
theorem tree_kinds_2.calls (a0 a1 : ByteArray) (a2 a3 a4 a5 a6 : Int) (a7 : ByteArray) (r : Bool) (w : World) (h : tree_kinds_2.f a0 a1 a2 a3 a4 a5 a6 a7 = some r) :
    Calls Try.prog 57 #[.agg #[.string a0, .string a1, .int .u8 a2, .int .i64 a3, .int .i64 a4, .int .i64 a5, .int .i64 a6, .string a7]] w fun e w' => e = .returned (.bool r) ∧ Below w.heap.size w w' := by
  have hu := Try.underlying23
  unfold tree_kinds_2.f at h
  by_cases c : tree_kinds_2.ask a3 a4 a5 a6 a7 = true
  · rw [if_pos c] at h
    unfold tree_kinds_2.ask at c
    simp only [Bool.and_eq_true, beq_iff_eq] at c
    obtain ⟨rfl, rfl, rfl, rfl, h7⟩ := c
    obtain rfl : a7 = ⟨#[]⟩ := ByteArray.ext (Array.toList_inj.1 (by rw [ByteArray.toList_eq] at h7; rw [h7]))
    have hcall := fun w => path_May.calls a1 r w h
    clear h h7
    go_enter Try.func57, Try.ntmps57
    go_wp2_with (fail)
    refine (hcall _).mono ?_
    rintro e w1 ⟨rfl, hb1⟩
    go_wp2
    go_ret
    exact ⟨rfl, below_then (below_alloc (Below.refl _ _) _) (by simp) hb1⟩
  · rw [if_neg c] at h
    obtain rfl := Option.some.inj h
    unfold tree_kinds_2.ask at c
    clear h
    have c2 : ¬(a3 = 0 ∧ a4 = 0 ∧ a5 = 0 ∧ a6 = 0 ∧ a7.toList = []) := by simpa only [Bool.and_eq_true, beq_iff_eq] using c
    clear c
    have c3 : (a3 == 0 && (a4 == 0 && (a5 == 0 && (a6 == 0 && (a7.toList == ([] : List UInt8)))))) = false := by simpa using c2
    clear c2
    have he : ∀ (d : Nat) (w : World), (Op.equalIn (d + 2) 23 (.agg #[.string a0, .string a1, .int .u8 a2, .int .i64 a3, .int .i64 a4, .int .i64 a5, .int .i64 a6, .string a7]) (.agg #[.string a0, .string a1, .int .u8 a2, .int .i64 0, .int .i64 0, .int .i64 0, .int .i64 0, .string ⟨#[]⟩])).run Try.prog w = .ok false w := by
      intro d w
      rw [eqA23]
      have e0 : (ByteArray.mk #[]).toList = ([] : List UInt8) := by rw [ByteArray.toList_eq]
      simp only [beq_self_eq_true, Bool.true_and, e0]
      exact congrArg (fun b => Result.ok b w) c3
    have he2 := he 9998
    simp only [Nat.reduceAdd] at he2
    clear c3
    go_enter Try.func57, Try.ntmps57
    go_wp2_with (fail)
    go_ret
    exact ⟨rfl, below_alloc (Below.refl _ _) _⟩
end Go.Proofs.Ytoahjigjlgcjkaa.X
namespace Go.Proofs.Ytoahjigjlgcjkaa.X
open Go.RowKit Go.Proofs.YtoahjigjlgcjkaaW.PrintWords Go.Proofs.YtoahjigjlgcjkaaW.PrintLast Go.Proofs.YtoahjigjlgcjkaaW.PrintMore
attribute [local go_sem] max2_int min2_int max_two min_two
set_option linter.unusedVariables false
set_option linter.unusedSimpArgs false

/-! ### tree_kinds_3: function 58 -/
def tree_kinds_3.f (a0_0 : ByteArray) (a0_1 : ByteArray) (a0_2 : Int) (a0_3 : Int) (a0_4 : Int) (a0_5 : Int) (a0_6 : Int) (a0_7 : ByteArray) : Option (Bool) := (long_Text.f a0_1).bind fun t102 => (if t102 = true then (some (a0_7.toList == ([] : List UInt8))) else (some false))
set_option maxHeartbeats 8000000 in
set_option maxRecDepth 100000 in
theorem tree_kinds_3.calls (a0_0 : ByteArray) (a0_1 : ByteArray) (a0_2 : Int) (a0_3 : Int) (a0_4 : Int) (a0_5 : Int) (a0_6 : Int) (a0_7 : ByteArray) (r : Bool) (w : World) (h : tree_kinds_3.f a0_0 a0_1 a0_2 a0_3 a0_4 a0_5 a0_6 a0_7 = some r) :
    Calls Try.prog 58 #[.agg #[.string a0_0, .string a0_1, .int .u8 a0_2, .int .i64 a0_3, .int .i64 a0_4, .int .i64 a0_5, .int .i64 a0_6, .string a0_7]] w fun e w' => e = .returned (.bool r) ∧ Below w.heap.size w w' := by
  have hu23 := Try.underlying23
  have HB := Aside0.mk (Below.refl w.heap.size w)
  have H : ((long_Text.f a0_1).bind fun t102 => (if t102 = true then (some (a0_7.toList == ([] : List UInt8))) else (some false))) = some r := h
  clear h
  replace H := Option.bind_eq_some_iff.mp H
  obtain ⟨t102, A20, H⟩ := H
  replace H : (if t102 = true then (some (a0_7.toList == ([] : List UInt8))) else (some false)) = some r := H
  have A2 := Aside0.mk A20
  clear A20
  by_cases c3 : t102 = true
  · subst c3
    have H1 : (some (a0_7.toList == ([] : List UInt8))) = some r := by rw [if_pos rfl] at H; exact H
    clear H
    have H := H1
    clear H1
    obtain rfl := Option.some.inj H
    go_enter Try.func58, Try.ntmps58
    go_wp2_with (first | ((with_reducible refine gate_dst (N := 1) rfl ?_); refine box_event ?hg (N := 1) ?hd (cs := #[.string a0_0, .string a0_1, .int .u8 a0_2, .int .i64 a0_3, .int .i64 a0_4, .int .i64 a0_5, .int .i64 a0_6, .string a0_7]) (t := 23) ?hr ?_; (case hd => rfl); (case hg => rfl); (case hr => first | (go_simp; done) | (go_simp; rfl)); intro gb101 hg w4 hbox hb; have n0_ := Aside0.mk (below_step (by repeat (first | (with_reducible first | exact HB.out | apply below_alloc | apply pw_below_drewN | apply below_drew1) | exact HB.out)) hb); have n1_ := Aside0.mk (hbox); have n2_ := Aside0.mk ((by rw [hg]; exact (below_size (by repeat (first | (with_reducible first | exact HB.out | apply below_alloc | apply pw_below_drewN | apply below_drew1) | exact HB.out))) : w.heap.size ≤ gb101)); have n3_ := Aside0.mk ((by rw [hg]; exact (below_size (by repeat (first | (with_reducible first | exact HB.out | apply below_alloc | apply pw_below_drewN | apply below_drew1) | exact HB.out))) : w.heap.size ≤ gb101)); clear HB; have HB := n0_; have BK101 := n1_; have GW101 := n2_; have GE101 := n3_; clear n0_ n1_ n2_ n3_; clear hb hbox hg; have hcz5_0 : w4.cell? ⟨gb101, 0, none⟩ = some (.string a0_0) := (blk_cell BK101.out 0).trans rfl; have hcz5_1 : w4.cell? ⟨gb101, 1, none⟩ = some (.string a0_1) := (blk_cell BK101.out 1).trans rfl; have hcz5_2 : w4.cell? ⟨gb101, 2, none⟩ = some (.int .u8 a0_2) := (blk_cell BK101.out 2).trans rfl; have hcz5_3 : w4.cell? ⟨gb101, 3, none⟩ = some (.int .i64 a0_3) := (blk_cell BK101.out 3).trans rfl; have hcz5_4 : w4.cell? ⟨gb101, 4, none⟩ = some (.int .i64 a0_4) := (blk_cell BK101.out 4).trans rfl; have hcz5_5 : w4.cell? ⟨gb101, 5, none⟩ = some (.int .i64 a0_5) := (blk_cell BK101.out 5).trans rfl; have hcz5_6 : w4.cell? ⟨gb101, 6, none⟩ = some (.int .i64 a0_6) := (blk_cell BK101.out 6).trans rfl; have hcz5_7 : w4.cell? ⟨gb101, 7, none⟩ = some (.string a0_7) := (blk_cell BK101.out 7).trans rfl; have hfz5_0 := blk_frozen BK101.out 0; have hfz5_1 := blk_frozen BK101.out 1; have hfz5_2 := blk_frozen BK101.out 2; have hfz5_3 := blk_frozen BK101.out 3; have hfz5_4 := blk_frozen BK101.out 4; have hfz5_5 := blk_frozen BK101.out 5; have hfz5_6 := blk_frozen BK101.out 6; have hfz5_7 := blk_frozen BK101.out 7) | ((with_reducible refine gate_callee (f := 52) rfl ?_); refine goesL_ (some 5) rfl rfl Try.func52 (by kernel_rfl) rfl #[.string a0_1] rfl (by (try simp only [List.map_toArray, List.map_cons, List.map_nil]); first | done | rfl | (simp only [List.length_drop, List.length_take]; rfl)) ?_; (with_reducible refine (long_Text.calls a0_1 true _ A2.out).mono ?_); rintro e w' ⟨rfl, ⟨nd, rfl⟩⟩; refine ⟨_, rfl, ?_⟩))
    go_ret
    exact ⟨by first | rfl | (simp [errW_none, errW_some] <;> rfl) | (simp [*, errW_none, errW_some] <;> rfl), by repeat (first | (with_reducible first | exact HB.out | apply below_alloc | apply pw_below_drewN | apply below_drew1 | refine below_set ?_ GE101.out) | exact HB.out)⟩
  · replace c3 := Bool.eq_false_iff.mpr c3
    subst c3
    have H1 : (some false) = some r := by rw [if_neg (show ¬ (false = true) by decide)] at H; exact H
    clear H
    have H := H1
    clear H1
    obtain rfl := Option.some.inj H
    go_enter Try.func58, Try.ntmps58
    go_wp2_with (first | ((with_reducible refine gate_dst (N := 1) rfl ?_); refine box_event ?hg (N := 1) ?hd (cs := #[.string a0_0, .string a0_1, .int .u8 a0_2, .int .i64 a0_3, .int .i64 a0_4, .int .i64 a0_5, .int .i64 a0_6, .string a0_7]) (t := 23) ?hr ?_; (case hd => rfl); (case hg => rfl); (case hr => first | (go_simp; done) | (go_simp; rfl)); intro gb101 hg w6 hbox hb; have n0_ := Aside0.mk (below_step (by repeat (first | (with_reducible first | exact HB.out | apply below_alloc | apply pw_below_drewN | apply below_drew1) | exact HB.out)) hb); have n1_ := Aside0.mk (hbox); have n2_ := Aside0.mk ((by rw [hg]; exact (below_size (by repeat (first | (with_reducible first | exact HB.out | apply below_alloc | apply pw_below_drewN | apply below_drew1) | exact HB.out))) : w.heap.size ≤ gb101)); have n3_ := Aside0.mk ((by rw [hg]; exact (below_size (by repeat (first | (with_reducible first | exact HB.out | apply below_alloc | apply pw_below_drewN | apply below_drew1) | exact HB.out))) : w.heap.size ≤ gb101)); clear HB; have HB := n0_; have BK101 := n1_; have GW101 := n2_; have GE101 := n3_; clear n0_ n1_ n2_ n3_; clear hb hbox hg; have hcz7_0 : w6.cell? ⟨gb101, 0, none⟩ = some (.string a0_0) := (blk_cell BK101.out 0).trans rfl; have hcz7_1 : w6.cell? ⟨gb101, 1, none⟩ = some (.string a0_1) := (blk_cell BK101.out 1).trans rfl; have hcz7_2 : w6.cell? ⟨gb101, 2, none⟩ = some (.int .u8 a0_2) := (blk_cell BK101.out 2).trans rfl; have hcz7_3 : w6.cell? ⟨gb101, 3, none⟩ = some (.int .i64 a0_3) := (blk_cell BK101.out 3).trans rfl; have hcz7_4 : w6.cell? ⟨gb101, 4, none⟩ = some (.int .i64 a0_4) := (blk_cell BK101.out 4).trans rfl; have hcz7_5 : w6.cell? ⟨gb101, 5, none⟩ = some (.int .i64 a0_5) := (blk_cell BK101.out 5).trans rfl; have hcz7_6 : w6.cell? ⟨gb101, 6, none⟩ = some (.int .i64 a0_6) := (blk_cell BK101.out 6).trans rfl; have hcz7_7 : w6.cell? ⟨gb101, 7, none⟩ = some (.string a0_7) := (blk_cell BK101.out 7).trans rfl; have hfz7_0 := blk_frozen BK101.out 0; have hfz7_1 := blk_frozen BK101.out 1; have hfz7_2 := blk_frozen BK101.out 2; have hfz7_3 := blk_frozen BK101.out 3; have hfz7_4 := blk_frozen BK101.out 4; have hfz7_5 := blk_frozen BK101.out 5; have hfz7_6 := blk_frozen BK101.out 6; have hfz7_7 := blk_frozen BK101.out 7) | ((with_reducible refine gate_callee (f := 52) rfl ?_); refine goesL_ (some 5) rfl rfl Try.func52 (by kernel_rfl) rfl #[.string a0_1] rfl (by (try simp only [List.map_toArray, List.map_cons, List.map_nil]); first | done | rfl | (simp only [List.length_drop, List.length_take]; rfl)) ?_; (with_reducible refine (long_Text.calls a0_1 false _ A2.out).mono ?_); rintro e w' ⟨rfl, ⟨nd, rfl⟩⟩; refine ⟨_, rfl, ?_⟩))
    go_ret
    exact ⟨by first | rfl | (simp [errW_none, errW_some] <;> rfl) | (simp [*, errW_none, errW_some] <;> rfl), by repeat (first | (with_reducible first | exact HB.out | apply below_alloc | apply pw_below_drewN | apply below_drew1 | refine below_set ?_ GE101.out) | exact HB.out)⟩

end Go.Proofs.Ytoahjigjlgcjkaa.X
namespace Go.Proofs.Ytoahjigjlgcjkaa.X
open Go.RowKit Go.Proofs.YtoahjigjlgcjkaaW.PrintWords Go.Proofs.YtoahjigjlgcjkaaW.PrintLast Go.Proofs.YtoahjigjlgcjkaaW.PrintMore
attribute [local go_sem] max2_int min2_int max_two min_two
set_option linter.unusedVariables false
set_option linter.unusedSimpArgs false

/-! ### tree_kinds_4: function 59 -/
def tree_kinds_4.f (a0_0 : ByteArray) (a0_1 : ByteArray) (a0_2 : Int) (a0_3 : Int) (a0_4 : Int) (a0_5 : Int) (a0_6 : Int) (a0_7 : ByteArray) : Option (Bool) := if a0_1.toList = ([] : List UInt8) then (some (a0_7.toList == ([] : List UInt8))) else (some false)
set_option maxHeartbeats 8000000 in
set_option maxRecDepth 100000 in
theorem tree_kinds_4.calls (a0_0 : ByteArray) (a0_1 : ByteArray) (a0_2 : Int) (a0_3 : Int) (a0_4 : Int) (a0_5 : Int) (a0_6 : Int) (a0_7 : ByteArray) (r : Bool) (w : World) (h : tree_kinds_4.f a0_0 a0_1 a0_2 a0_3 a0_4 a0_5 a0_6 a0_7 = some r) :
    Calls Try.prog 59 #[.agg #[.string a0_0, .string a0_1, .int .u8 a0_2, .int .i64 a0_3, .int .i64 a0_4, .int .i64 a0_5, .int .i64 a0_6, .string a0_7]] w fun e w' => e = .returned (.bool r) ∧ Below w.heap.size w w' := by
  have hu23 := Try.underlying23
  have HB := Aside0.mk (Below.refl w.heap.size w)
  have H : (if a0_1.toList = ([] : List UInt8) then (some (a0_7.toList == ([] : List UInt8))) else (some false)) = some r := h
  clear h
  by_cases c2 : a0_1.toList = ([] : List UInt8)
  · rw [if_pos c2] at H
    have c2b0 : (a0_1.toList == ([] : List UInt8)) = true := beq_iff_eq.mpr c2
    have c2b1 : (a0_1.toList != ([] : List UInt8)) = false := bne_eq_false_iff_eq.mpr c2
    clear c2
    obtain rfl := Option.some.inj H
    go_enter Try.func59, Try.ntmps59
    go_wp2_with (first | ((with_reducible refine gate_dst (N := 1) rfl ?_); refine box_event ?hg (N := 1) ?hd (cs := #[.string a0_0, .string a0_1, .int .u8 a0_2, .int .i64 a0_3, .int .i64 a0_4, .int .i64 a0_5, .int .i64 a0_6, .string a0_7]) (t := 23) ?hr ?_; (case hd => rfl); (case hg => rfl); (case hr => first | (go_simp; done) | (go_simp; rfl)); intro gb101 hg w3 hbox hb; have n0_ := Aside0.mk (below_step (by repeat (first | (with_reducible first | exact HB.out | apply below_alloc | apply pw_below_drewN | apply below_drew1) | exact HB.out)) hb); have n1_ := Aside0.mk (hbox); have n2_ := Aside0.mk ((by rw [hg]; exact (below_size (by repeat (first | (with_reducible first | exact HB.out | apply below_alloc | apply pw_below_drewN | apply below_drew1) | exact HB.out))) : w.heap.size ≤ gb101)); have n3_ := Aside0.mk ((by rw [hg]; exact (below_size (by repeat (first | (with_reducible first | exact HB.out | apply below_alloc | apply pw_below_drewN | apply below_drew1) | exact HB.out))) : w.heap.size ≤ gb101)); clear HB; have HB := n0_; have BK101 := n1_; have GW101 := n2_; have GE101 := n3_; clear n0_ n1_ n2_ n3_; clear hb hbox hg; have hcz4_0 : w3.cell? ⟨gb101, 0, none⟩ = some (.string a0_0) := (blk_cell BK101.out 0).trans rfl; have hcz4_1 : w3.cell? ⟨gb101, 1, none⟩ = some (.string a0_1) := (blk_cell BK101.out 1).trans rfl; have hcz4_2 : w3.cell? ⟨gb101, 2, none⟩ = some (.int .u8 a0_2) := (blk_cell BK101.out 2).trans rfl; have hcz4_3 : w3.cell? ⟨gb101, 3, none⟩ = some (.int .i64 a0_3) := (blk_cell BK101.out 3).trans rfl; have hcz4_4 : w3.cell? ⟨gb101, 4, none⟩ = some (.int .i64 a0_4) := (blk_cell BK101.out 4).trans rfl; have hcz4_5 : w3.cell? ⟨gb101, 5, none⟩ = some (.int .i64 a0_5) := (blk_cell BK101.out 5).trans rfl; have hcz4_6 : w3.cell? ⟨gb101, 6, none⟩ = some (.int .i64 a0_6) := (blk_cell BK101.out 6).trans rfl; have hcz4_7 : w3.cell? ⟨gb101, 7, none⟩ = some (.string a0_7) := (blk_cell BK101.out 7).trans rfl; have hfz4_0 := blk_frozen BK101.out 0; have hfz4_1 := blk_frozen BK101.out 1; have hfz4_2 := blk_frozen BK101.out 2; have hfz4_3 := blk_frozen BK101.out 3; have hfz4_4 := blk_frozen BK101.out 4; have hfz4_5 := blk_frozen BK101.out 5; have hfz4_6 := blk_frozen BK101.out 6; have hfz4_7 := blk_frozen BK101.out 7))
    go_ret
    exact ⟨by first | rfl | (simp [errW_none, errW_some] <;> rfl) | (simp [*, errW_none, errW_some] <;> rfl), by repeat (first | (with_reducible first | exact HB.out | apply below_alloc | apply pw_below_drewN | apply below_drew1 | refine below_set ?_ GE101.out) | exact HB.out)⟩
  · rw [if_neg c2] at H
    have c2b0 : (a0_1.toList == ([] : List UInt8)) = false := beq_eq_false_iff_ne.mpr c2
    have c2b1 : (a0_1.toList != ([] : List UInt8)) = true := bne_iff_ne.mpr c2
    obtain rfl := Option.some.inj H
    go_enter Try.func59, Try.ntmps59
    go_wp2_with (first | ((with_reducible refine gate_dst (N := 1) rfl ?_); refine box_event ?hg (N := 1) ?hd (cs := #[.string a0_0, .string a0_1, .int .u8 a0_2, .int .i64 a0_3, .int .i64 a0_4, .int .i64 a0_5, .int .i64 a0_6, .string a0_7]) (t := 23) ?hr ?_; (case hd => rfl); (case hg => rfl); (case hr => first | (go_simp; done) | (go_simp; rfl)); intro gb101 hg w5 hbox hb; have n0_ := Aside0.mk (below_step (by repeat (first | (with_reducible first | exact HB.out | apply below_alloc | apply pw_below_drewN | apply below_drew1) | exact HB.out)) hb); have n1_ := Aside0.mk (hbox); have n2_ := Aside0.mk ((by rw [hg]; exact (below_size (by repeat (first | (with_reducible first | exact HB.out | apply below_alloc | apply pw_below_drewN | apply below_drew1) | exact HB.out))) : w.heap.size ≤ gb101)); have n3_ := Aside0.mk ((by rw [hg]; exact (below_size (by repeat (first | (with_reducible first | exact HB.out | apply below_alloc | apply pw_below_drewN | apply below_drew1) | exact HB.out))) : w.heap.size ≤ gb101)); clear HB; have HB := n0_; have BK101 := n1_; have GW101 := n2_; have GE101 := n3_; clear n0_ n1_ n2_ n3_; clear hb hbox hg; have hcz6_0 : w5.cell? ⟨gb101, 0, none⟩ = some (.string a0_0) := (blk_cell BK101.out 0).trans rfl; have hcz6_1 : w5.cell? ⟨gb101, 1, none⟩ = some (.string a0_1) := (blk_cell BK101.out 1).trans rfl; have hcz6_2 : w5.cell? ⟨gb101, 2, none⟩ = some (.int .u8 a0_2) := (blk_cell BK101.out 2).trans rfl; have hcz6_3 : w5.cell? ⟨gb101, 3, none⟩ = some (.int .i64 a0_3) := (blk_cell BK101.out 3).trans rfl; have hcz6_4 : w5.cell? ⟨gb101, 4, none⟩ = some (.int .i64 a0_4) := (blk_cell BK101.out 4).trans rfl; have hcz6_5 : w5.cell? ⟨gb101, 5, none⟩ = some (.int .i64 a0_5) := (blk_cell BK101.out 5).trans rfl; have hcz6_6 : w5.cell? ⟨gb101, 6, none⟩ = some (.int .i64 a0_6) := (blk_cell BK101.out 6).trans rfl; have hcz6_7 : w5.cell? ⟨gb101, 7, none⟩ = some (.string a0_7) := (blk_cell BK101.out 7).trans rfl; have hfz6_0 := blk_frozen BK101.out 0; have hfz6_1 := blk_frozen BK101.out 1; have hfz6_2 := blk_frozen BK101.out 2; have hfz6_3 := blk_frozen BK101.out 3; have hfz6_4 := blk_frozen BK101.out 4; have hfz6_5 := blk_frozen BK101.out 5; have hfz6_6 := blk_frozen BK101.out 6; have hfz6_7 := blk_frozen BK101.out 7))
    go_ret
    exact ⟨by first | rfl | (simp [errW_none, errW_some] <;> rfl) | (simp [*, errW_none, errW_some] <;> rfl), by repeat (first | (with_reducible first | exact HB.out | apply below_alloc | apply pw_below_drewN | apply below_drew1 | refine below_set ?_ GE101.out) | exact HB.out)⟩

end Go.Proofs.Ytoahjigjlgcjkaa.X
namespace Go.Proofs.Ytoahjigjlgcjkaa.X
open Go.RowKit Go.Proofs.YtoahjigjlgcjkaaW.PrintWords Go.Proofs.YtoahjigjlgcjkaaW.PrintLast Go.Proofs.YtoahjigjlgcjkaaW.PrintMore
attribute [local go_sem] max2_int min2_int max_two min_two
set_option linter.unusedVariables false
set_option linter.unusedSimpArgs false

open Go.Proofs.YtoahjigjlgcjkaaY
def tree_One.ask (a0 a1 : ByteArray) (a2 a3 a4 a5 a6 : Int) (a7 : ByteArray) : Option Bool :=
  if a2 = 48 then tree_kinds_1.f a0 a1 a2 a3 a4 a5 a6 a7 else if a2 = 49 then tree_kinds_2.f a0 a1 a2 a3 a4 a5 a6 a7 else if a2 = 50 then tree_kinds_3.f a0 a1 a2 a3 a4 a5 a6 a7 else if a2 = 53 then tree_kinds_4.f a0 a1 a2 a3 a4 a5 a6 a7 else some false
def tree_One.f (a0 a1 : ByteArray) (a2 a3 a4 a5 a6 : Int) (a7 : ByteArray) : Option Bool :=
  (tree_One.ask a0 a1 a2 a3 a4 a5 a6 a7).bind fun q => (path_May.f a0).bind fun m => some (q && m && (decide (a3 ≥ 0) && decide (a3 ≤ 4095)) && (decide (a4 ≥ 0) && decide (a4 ≤ 1099511627776)) && (decide (a5 ≥ 0) && decide (a5 ≤ 1099511627776)) && (decide (a6 ≥ 0) && decide (a6 ≤ 1099511627776)))
theorem tree_in.at_ (a0 a1 : Int) (w : World) : Calls Try.prog 34 #[.int .i64 a0, .int .i64 a1] w fun e w' => e = .returned (.bool (decide (a0 ≥ 0) && decide (a0 ≤ a1))) ∧ Drawn0 w w' := by
  refine tree_in.calls a0 a1 _ w ?_
  unfold tree_in.f
  by_cases h : a0 ≥ 0
  · simp [h]
  · simp [h]
theorem tree_kinds.at3 (a2 : Int) (lv : Value) (hl : ∀ (W : World) (b : Nat), W.heap[b]? = some kindsObj → (Instr.lookup 61 (.map (some b)) (.int .u8 a2) true).run Try.prog W = .ok lv W) (g : Nat) (o : Obj) (v : Value) (w : World) (hb : w.heap[g]? = some o) (hc : w.cell? ⟨g, 2, none⟩ = some v) :
    Calls Try.prog 33 #[] w fun e w' => ∃ b, e = .returned (.map (some b)) ∧ Aside0 (Below w.heap.size w w') ∧ w'.cell? ⟨g, 2, none⟩ = some v ∧
      (Instr.lookup 61 (.map (some b)) (.int .u8 a2) true).run Try.prog w' = .ok lv w' ∧
      (Instr.lookup 61 (.map (some b)) (.int .u8 a2) true).run Try.prog w'.drew = .ok lv w'.drew ∧
      (Instr.lookup 61 (.map (some b)) (.int .u8 a2) true).run Try.prog w'.drew.drew = .ok lv w'.drew.drew := by
  refine (tree_kinds.at_ w).mono ?_
  rintro e w' ⟨rfl, rfl⟩
  have h0 : (w.alloc kindsObj).heap[w.heap.size]? = some kindsObj := heap_alloc_new w _
  have hB : Below w.heap.size w (w.alloc kindsObj) := below_alloc (Below.refl _ _) _
  have hg : (w.alloc kindsObj).heap[g]? = w.heap[g]? := hB.block g (blk_lt hb)
  refine ⟨_, rfl, ⟨hB⟩, ?_, hl _ _ h0, hl _ _ h0, hl _ _ h0⟩
  rw [← hc]
  simp only [World.cell?, hg]
set_option maxHeartbeats 2000000 in
set_option maxRecDepth 100000 in
theorem tree_One.some_ (gf : Nat) (q m b3 b4 b5 b6 : Bool) (a0 a1 : ByteArray) (a2 a3 a4 a5 a6 : Int) (a7 : ByteArray) (w : World)
    (hl : ∀ (W : World) (b : Nat), W.heap[b]? = some kindsObj → (Instr.lookup 61 (.map (some b)) (.int .u8 a2) true).run Try.prog W = .ok (.tuple #[.func (.func gf) #[] #[], .bool true]) W)
    (hg : ∀ args W, (callFunc gf args).run Try.prog W = .ok (.enter gf args) W)
    (hq : ∀ W, Calls Try.prog gf #[.agg #[.string a0, .string a1, .int .u8 a2, .int .i64 a3, .int .i64 a4, .int .i64 a5, .int .i64 a6, .string a7]] W fun e w' => e = .returned (.bool q) ∧ Below W.heap.size W w')
    (h3 : ∀ w, Calls Try.prog 34 #[.int .i64 a3, .int .i64 4095] w fun e w' => e = .returned (.bool b3) ∧ Drawn0 w w')
    (h4 : ∀ w, Calls Try.prog 34 #[.int .i64 a4, .int .i64 1099511627776] w fun e w' => e = .returned (.bool b4) ∧ Drawn0 w w')
    (h5 : ∀ w, Calls Try.prog 34 #[.int .i64 a5, .int .i64 1099511627776] w fun e w' => e = .returned (.bool b5) ∧ Drawn0 w w')
    (h6 : ∀ w, Calls Try.prog 34 #[.int .i64 a6, .int .i64 1099511627776] w fun e w' => e = .returned (.bool b6) ∧ Drawn0 w w')
    (hm : path_May.f a0 = some m) :
    Calls Try.prog 16 #[.agg #[.string a0, .string a1, .int .u8 a2, .int .i64 a3, .int .i64 a4, .int .i64 a5, .int .i64 a6, .string a7]] w fun e w' => e = .returned (.bool (q && m && b3 && b4 && b5 && b6)) ∧ Below w.heap.size w w' := by
  have HM := Aside0.mk hm
  have HQ := Aside0.mk hq
  have H3 := Aside0.mk h3
  have H4 := Aside0.mk h4
  have H5 := Aside0.mk h5
  have H6 := Aside0.mk h6
  clear hm hq h3 h4 h5 h6
  go_enter Try.func16, Try.ntmps16
  go_wp2_with (fail)
  go_region_held3 (fun w' => w'.cell? ⟨w.heap.size, 2, none⟩ = some (.int .u8 a2)) (go_keep) (first | (go_at_call 33; refine (tree_kinds.at3 a2 _ hl w.heap.size _ (.int .u8 a2) _ (by exact heap_alloc_new w _) (by exact (blk_cell (heap_alloc_new w _) 2))).mono ?_; rintro e w1 ⟨b, rfl, HB1, hc1, hl1, hl2, hl3⟩))
  have hbox1 : w1.heap[w.heap.size]? = some (.cells #[.string a0, .string a1, .int .u8 a2, .int .i64 a3, .int .i64 a4, .int .i64 a5, .int .i64 a6, .string a7] 23 (0, 0)) := blk_below (by exact heap_alloc_new w _) HB1.out
  have HBW := Aside0.mk (below_step (below_drew1 (below_alloc (Below.refl w.heap.size w) _)) HB1.out)
  have hz0 : w1.cell? ⟨w.heap.size, 0, none⟩ = some (.string a0) := (blk_cell hbox1 0).trans rfl
  have hz1 : w1.cell? ⟨w.heap.size, 1, none⟩ = some (.string a1) := (blk_cell hbox1 1).trans rfl
  have hz2 : w1.cell? ⟨w.heap.size, 2, none⟩ = some (.int .u8 a2) := (blk_cell hbox1 2).trans rfl
  have hz3 : w1.cell? ⟨w.heap.size, 3, none⟩ = some (.int .i64 a3) := (blk_cell hbox1 3).trans rfl
  have hz4 : w1.cell? ⟨w.heap.size, 4, none⟩ = some (.int .i64 a4) := (blk_cell hbox1 4).trans rfl
  have hz5 : w1.cell? ⟨w.heap.size, 5, none⟩ = some (.int .i64 a5) := (blk_cell hbox1 5).trans rfl
  have hz6 : w1.cell? ⟨w.heap.size, 6, none⟩ = some (.int .i64 a6) := (blk_cell hbox1 6).trans rfl
  have hz7 : w1.cell? ⟨w.heap.size, 7, none⟩ = some (.string a7) := (blk_cell hbox1 7).trans rfl
  have HX1 := Aside0.mk hbox1
  clear hbox1 HB1 hl1 hl2 hl3 hc1 hl
  go_wp2_with (fail)
  refine (HQ.out _).mono ?_
  rintro e w2 ⟨rfl, hb2⟩
  have hbox2 := blk_below HX1.out hb2
  have HB2 := Aside0.mk (below_step HBW.out hb2)
  clear HBW
  have HBW := HB2
  clear HB2 hb2
  clear hz0 hz1 hz2 hz3 hz4 hz5 hz6 hz7
  have hz0 : w2.cell? ⟨w.heap.size, 0, none⟩ = some (.string a0) := (blk_cell hbox2 0).trans rfl
  have hz1 : w2.cell? ⟨w.heap.size, 1, none⟩ = some (.string a1) := (blk_cell hbox2 1).trans rfl
  have hz2 : w2.cell? ⟨w.heap.size, 2, none⟩ = some (.int .u8 a2) := (blk_cell hbox2 2).trans rfl
  have hz3 : w2.cell? ⟨w.heap.size, 3, none⟩ = some (.int .i64 a3) := (blk_cell hbox2 3).trans rfl
  have hz4 : w2.cell? ⟨w.heap.size, 4, none⟩ = some (.int .i64 a4) := (blk_cell hbox2 4).trans rfl
  have hz5 : w2.cell? ⟨w.heap.size, 5, none⟩ = some (.int .i64 a5) := (blk_cell hbox2 5).trans rfl
  have hz6 : w2.cell? ⟨w.heap.size, 6, none⟩ = some (.int .i64 a6) := (blk_cell hbox2 6).trans rfl
  have hz7 : w2.cell? ⟨w.heap.size, 7, none⟩ = some (.string a7) := (blk_cell hbox2 7).trans rfl
  have HX2 := Aside0.mk hbox2
  clear hbox2
  cases q
  · go_wp2_with (fail)
    go_ret
    exact ⟨by simp, by repeat (first | (with_reducible first | exact HBW.out | apply pw_below_drewN | apply below_drew1) | exact HBW.out)⟩
  go_wp2_with (fail)
  refine (path_May.calls a0 m _ HM.out).mono ?_
  rintro e w3 ⟨rfl, hb3⟩
  have hbox3 := blk_below HX2.out hb3
  have HB3 := Aside0.mk (below_step HBW.out hb3)
  clear HBW
  have HBW := HB3
  clear HB3 hb3
  clear hz0 hz1 hz2 hz3 hz4 hz5 hz6 hz7
  have hz0 : w3.cell? ⟨w.heap.size, 0, none⟩ = some (.string a0) := (blk_cell hbox3 0).trans rfl
  have hz1 : w3.cell? ⟨w.heap.size, 1, none⟩ = some (.string a1) := (blk_cell hbox3 1).trans rfl
  have hz2 : w3.cell? ⟨w.heap.size, 2, none⟩ = some (.int .u8 a2) := (blk_cell hbox3 2).trans rfl
  have hz3 : w3.cell? ⟨w.heap.size, 3, none⟩ = some (.int .i64 a3) := (blk_cell hbox3 3).trans rfl
  have hz4 : w3.cell? ⟨w.heap.size, 4, none⟩ = some (.int .i64 a4) := (blk_cell hbox3 4).trans rfl
  have hz5 : w3.cell? ⟨w.heap.size, 5, none⟩ = some (.int .i64 a5) := (blk_cell hbox3 5).trans rfl
  have hz6 : w3.cell? ⟨w.heap.size, 6, none⟩ = some (.int .i64 a6) := (blk_cell hbox3 6).trans rfl
  have hz7 : w3.cell? ⟨w.heap.size, 7, none⟩ = some (.string a7) := (blk_cell hbox3 7).trans rfl
  have HX3 := Aside0.mk hbox3
  clear hbox3
  cases m
  · go_wp2_with (fail)
    go_ret
    exact ⟨by simp, by repeat (first | (with_reducible first | exact HBW.out | apply pw_below_drewN | apply below_drew1) | exact HBW.out)⟩
  go_wp2_with (fail)
  refine (H3.out _).mono ?_
  rintro e w' ⟨rfl, nd3, rfl⟩
  cases b3
  · go_wp2_with (fail)
    go_ret
    exact ⟨by simp, by repeat (first | (with_reducible first | exact HBW.out | apply pw_below_drewN | apply below_drew1) | exact HBW.out)⟩
  go_wp2_with (fail)
  refine (H4.out _).mono ?_
  rintro e w' ⟨rfl, nd4, rfl⟩
  cases b4
  · go_wp2_with (fail)
    go_ret
    exact ⟨by simp, by repeat (first | (with_reducible first | exact HBW.out | apply pw_below_drewN | apply below_drew1) | exact HBW.out)⟩
  go_wp2_with (fail)
  refine (H5.out _).mono ?_
  rintro e w' ⟨rfl, nd5, rfl⟩
  cases b5
  · go_wp2_with (fail)
    go_ret
    exact ⟨by simp, by repeat (first | (with_reducible first | exact HBW.out | apply pw_below_drewN | apply below_drew1) | exact HBW.out)⟩
  go_wp2_with (fail)
  refine (H6.out _).mono ?_
  rintro e w' ⟨rfl, nd6, rfl⟩
  cases b6
  · go_wp2_with (fail)
    go_ret
    exact ⟨by simp, by repeat (first | (with_reducible first | exact HBW.out | apply pw_below_drewN | apply below_drew1) | exact HBW.out)⟩
  go_wp2_with (fail)
  go_ret
  exact ⟨by simp, by repeat (first | (with_reducible first | exact HBW.out | apply pw_below_drewN | apply below_drew1) | exact HBW.out)⟩
set_option maxHeartbeats 2000000 in
set_option maxRecDepth 100000 in
theorem tree_One.none_ (a0 a1 : ByteArray) (a2 a3 a4 a5 a6 : Int) (a7 : ByteArray) (w : World) (fv : Value)
    (hl : ∀ (W : World) (b : Nat), W.heap[b]? = some kindsObj → (Instr.lookup 61 (.map (some b)) (.int .u8 a2) true).run Try.prog W = .ok (.tuple #[fv, .bool false]) W) :
    Calls Try.prog 16 #[.agg #[.string a0, .string a1, .int .u8 a2, .int .i64 a3, .int .i64 a4, .int .i64 a5, .int .i64 a6, .string a7]] w fun e w' => e = .returned (.bool false) ∧ Below w.heap.size w w' := by
  go_enter Try.func16, Try.ntmps16
  go_wp2_with (fail)
  go_region_held3 (fun w' => w'.cell? ⟨w.heap.size, 2, none⟩ = some (.int .u8 a2)) (go_keep) (first | (go_at_call 33; refine (tree_kinds.at3 a2 _ hl w.heap.size _ (.int .u8 a2) _ (by exact heap_alloc_new w _) (by exact (blk_cell (heap_alloc_new w _) 2))).mono ?_; rintro e w1 ⟨b, rfl, HB1, hc1, hl1, hl2, hl3⟩))
  have HBW := Aside0.mk (below_step (below_drew1 (below_alloc (Below.refl w.heap.size w) _)) HB1.out)
  clear hl1 hl2 hl3 hc1 hl HB1
  go_wp2_with (fail)
  go_ret
  exact ⟨by simp, by repeat (first | (with_reducible first | exact HBW.out | apply pw_below_drewN | apply below_drew1) | exact HBW.out)⟩
theorem kinds_look (W : World) (b : Nat) (hb : W.heap[b]? = some kindsObj) (k : Int) (i gf : Nat) (h : Instr.findNow (.int .u8) (.int .u8 k) [{ key := .int .u8 48, val := .func (.func 56) #[] #[], born := 0 }, { key := .int .u8 49, val := .func (.func 57) #[] #[], born := 1 }, { key := .int .u8 50, val := .func (.func 58) #[] #[], born := 2 }, { key := .int .u8 53, val := .func (.func 59) #[] #[], born := 3 }] 0 = some (some (i, .func (.func gf) #[] #[]))) :
    (Instr.lookup 61 (.map (some b)) (.int .u8 k) true).run Try.prog W = .ok (.tuple #[.func (.func gf) #[] #[], .bool true]) W :=
  run_lookup_found (P := Try.prog) (T := 61) true Try.underlying61 Try.underlying5 (by simp [MapKept.IsKey]) hb h
set_option maxHeartbeats 2000000 in
theorem tree_One.calls (a0_0 : ByteArray) (a0_1 : ByteArray) (a0_2 : Int) (a0_3 : Int) (a0_4 : Int) (a0_5 : Int) (a0_6 : Int) (a0_7 : ByteArray) (r : Bool) (w : World) (h : tree_One.f a0_0 a0_1 a0_2 a0_3 a0_4 a0_5 a0_6 a0_7 = some r) :
    Calls Try.prog 16 #[.agg #[.string a0_0, .string a0_1, .int .u8 a0_2, .int .i64 a0_3, .int .i64 a0_4, .int .i64 a0_5, .int .i64 a0_6, .string a0_7]] w fun e w' => e = .returned (.bool r) ∧ Below w.heap.size w w' := by
  unfold tree_One.f at h
  obtain ⟨q, hq, h⟩ := Option.bind_eq_some_iff.mp h
  obtain ⟨m, hm, h⟩ := Option.bind_eq_some_iff.mp h
  have hr := Option.some.inj h
  clear h
  have h3 := tree_in.at_ a0_3 4095
  have h4 := tree_in.at_ a0_4 1099511627776
  have h5 := tree_in.at_ a0_5 1099511627776
  have h6 := tree_in.at_ a0_6 1099511627776
  rw [← hr]
  unfold tree_One.ask at hq
  by_cases c1 : a0_2 = 48
  · subst c1
    rw [if_pos rfl] at hq
    exact tree_One.some_ _ q m _ _ _ _ a0_0 a0_1 _ a0_3 a0_4 a0_5 a0_6 a0_7 w (fun W b hb => kinds_look W b hb 48 0 _ rfl) (fun _ _ => by kernel_rfl) (fun W => tree_kinds_1.calls a0_0 a0_1 48 a0_3 a0_4 a0_5 a0_6 a0_7 q W hq) h3 h4 h5 h6 hm
  · rw [if_neg c1] at hq
    by_cases c2 : a0_2 = 49
    · subst c2
      rw [if_pos rfl] at hq
      exact tree_One.some_ _ q m _ _ _ _ a0_0 a0_1 _ a0_3 a0_4 a0_5 a0_6 a0_7 w (fun W b hb => kinds_look W b hb 49 1 _ rfl) (fun _ _ => by kernel_rfl) (fun W => tree_kinds_2.calls a0_0 a0_1 49 a0_3 a0_4 a0_5 a0_6 a0_7 q W hq) h3 h4 h5 h6 hm
    · rw [if_neg c2] at hq
      by_cases c3 : a0_2 = 50
      · subst c3
        rw [if_pos rfl] at hq
        exact tree_One.some_ _ q m _ _ _ _ a0_0 a0_1 _ a0_3 a0_4 a0_5 a0_6 a0_7 w (fun W b hb => kinds_look W b hb 50 2 _ rfl) (fun _ _ => by kernel_rfl) (fun W => tree_kinds_3.calls a0_0 a0_1 50 a0_3 a0_4 a0_5 a0_6 a0_7 q W hq) h3 h4 h5 h6 hm
      · rw [if_neg c3] at hq
        by_cases c4 : a0_2 = 53
        · subst c4
          rw [if_pos rfl] at hq
          exact tree_One.some_ _ q m _ _ _ _ a0_0 a0_1 _ a0_3 a0_4 a0_5 a0_6 a0_7 w (fun W b hb => kinds_look W b hb 53 3 _ rfl) (fun _ _ => by kernel_rfl) (fun W => tree_kinds_4.calls a0_0 a0_1 53 a0_3 a0_4 a0_5 a0_6 a0_7 q W hq) h3 h4 h5 h6 hm
        · rw [if_neg c4] at hq
          obtain rfl := Option.some.inj hq
          simp only [Bool.false_and]
          refine tree_One.none_ a0_0 a0_1 _ a0_3 a0_4 a0_5 a0_6 a0_7 w .nilFunc (fun W b hb => run_lookup_lacks (P := Try.prog) (T := 61) true Try.underlying61 Try.underlying5 (by simp [MapKept.IsKey]) hb ?_ ?_)
          · have e1 : (a0_2 == 48) = false := beq_eq_false_iff_ne.2 c1
            have e2 : (a0_2 == 49) = false := beq_eq_false_iff_ne.2 c2
            have e3 : (a0_2 == 50) = false := beq_eq_false_iff_ne.2 c3
            have e4 : (a0_2 == 53) = false := beq_eq_false_iff_ne.2 c4
            simp [Instr.findNow, Instr.sameNow, e1, e2, e3, e4]
          · go_simp
end Go.Proofs.Ytoahjigjlgcjkaa.X
