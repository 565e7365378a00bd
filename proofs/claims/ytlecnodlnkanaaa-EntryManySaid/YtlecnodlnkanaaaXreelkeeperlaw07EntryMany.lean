import Derived.Test.YtlecnodlnkanaaaXK
import Derived.Test.YtlecnodlnkanaaaXGtree
import Derived.Test.YtlecnodlnkanaaaXentryData
import Derived.Test.YtlecnodlnkanaaaXentryMany
import Derived.Test.YtlecnodlnkanaaaXreelkeeperlaw05Few
import Derived.Test.YtlecnodlnkanaaaXreelkeeperlaw07awake
import Derived.Test.YtlecnodlnkanaaaP07a
import Derived.Test.YtlecnodlnkanaaaP07b
import Derived.Test.YtlecnodlnkanaaaP07c
import Derived.Test.YtlecnodlnkanaaaP07e
import Derived.Test.YtlecnodlnkanaaaPGA
import Derived.Deep.RegionHeld3
import Derived.Laws.EntriesVeiled
import Derived.WalkSpells
namespace Go.Proofs.Ytlecnodlnkanaaa.X
open Go.RowKit Go.Proofs.YtlecnodlnkanaaaW.PrintWords Go.Proofs.YtlecnodlnkanaaaW.PrintLast Go.Proofs.YtlecnodlnkanaaaW.PrintMore
attribute [local go_sem] max2_int min2_int max_two min_two max_three min_three max_four min_four
set_option linter.unusedVariables false
set_option linter.unusedSimpArgs false

open Go.Proofs.YtlecnodlnkanaaaY
def reelkeeperlaw07_EntryMany.f (k : Nat) (a0_0 a0_1 : ByteArray) (a0_2 a0_3 a0_4 a0_5 a0_6 : Int) (a0_7 : ByteArray) : Option Bool := some true
theorem EntryMany_told (n : Nd) : ∃ k, reelkeeperlaw07_EntryMany.f k n.f0 n.f1 n.f2 n.f3 n.f4 n.f5 n.f6 n.f7 = some true := ⟨0, rfl⟩
set_option maxHeartbeats 3200000 in
set_option maxRecDepth 100000 in
theorem EntryMany_walk (a0_0 a0_1 : ByteArray) (a0_2 a0_3 a0_4 a0_5 a0_6 : Int) (a0_7 : ByteArray) (w : World) (A M : Int) (hM : 0 ≤ M ∧ M ≤ 8)
    (hcase : (A = 0 ∧ a0_1.size ≤ 100) ∨ (A = 2 ∧ 100 < a0_1.size) ∨ (A = 2 ∧ a0_1.size ≤ 100 ∧ 100 < a0_0.size) ∨ (A = 4 ∧ 100 < a0_1.size ∧ 100 < a0_0.size))
    (hfew : ∀ W, Calls Try.prog 22 #[.agg #[.string a0_0, .string a0_1, .int .u8 a0_2, .int .i64 a0_3, .int .i64 a0_4, .int .i64 a0_5, .int .i64 a0_6, .string a0_7]] W fun e w' => e = .returned (.bool true) ∧ Below W.heap.size W w')
    (hone : ∀ W, Calls Try.prog 32 #[.agg #[.string a0_0, .string a0_1, .int .u8 a0_2, .int .i64 a0_3, .int .i64 a0_4, .int .i64 a0_5, .int .i64 a0_6, .string a0_7]] W fun e w' => e = .returned (.bool true) ∧ Below W.heap.size W w')
    (hmany : ∀ W, Calls Try.prog 28 #[.agg #[.string a0_0, .string a0_1, .int .u8 a0_2, .int .i64 a0_3, .int .i64 a0_4, .int .i64 a0_5, .int .i64 a0_6, .string a0_7]] W fun e w' => e = .returned (.int .i64 (A + 1 + M)) ∧ Below W.heap.size W w')
    (hdata : ∀ W, Calls Try.prog 30 #[.agg #[.string a0_0, .string a0_1, .int .u8 a0_2, .int .i64 a0_3, .int .i64 a0_4, .int .i64 a0_5, .int .i64 a0_6, .string a0_7]] W fun e w' => e = .returned (.int .i64 M) ∧ Below W.heap.size W w') :
    Calls Try.prog 5 #[.agg #[.string a0_0, .string a0_1, .int .u8 a0_2, .int .i64 a0_3, .int .i64 a0_4, .int .i64 a0_5, .int .i64 a0_6, .string a0_7]] w fun e w' => e = .returned (.bool true) ∧ Below w.heap.size w w' := by
  have hup := fun W => awake7.at_ W
  obtain ⟨T, hT⟩ : ∃ T, T = A + 1 + M := ⟨_, rfl⟩
  rw [← hT] at hmany
  obtain ⟨T1, hT1⟩ : ∃ T1, T1 = T - 1 := ⟨_, rfl⟩
  have f1 : IntKind.i64.wrap (T - 1) = T1 := by rw [i64_w]; unfold wrap64; omega
  have f2 : IntKind.i64.wrap (T1 - M) = A := by rw [i64_w]; unfold wrap64; omega
  have F1 := Aside0.mk f1
  have F2 := Aside0.mk f2
  have hM8 : M ≤ 8 := hM.2
  clear f1 f2 hT hT1 hM
  have HB0 := Aside0.mk (Below.refl w.heap.size w)
  have HB0 := Aside0.mk (below_alloc HB0.out (.cells #[.string a0_0, .string a0_1, .int .u8 a0_2, .int .i64 a0_3, .int .i64 a0_4, .int .i64 a0_5, .int .i64 a0_6, .string a0_7] 23))
  have HXn_0 := Aside0.mk (heap_alloc_new w (.cells #[.string a0_0, .string a0_1, .int .u8 a0_2, .int .i64 a0_3, .int .i64 a0_4, .int .i64 a0_5, .int .i64 a0_6, .string a0_7] 23))
  go_enter Try.func5, Try.ntmps5
  go_upto_region 5 with (first | (go_at_call 21; refine (hup _).mono ?_; rintro e w1 ⟨rfl, hb⟩; have HB1 := Aside0.mk (below_step (by repeat (first | exact HB0.out | apply below_alloc | apply pw_below_drewN | apply below_drew1)) hb); have HXn_1 := Aside0.mk (blk_below (by repeat (first | exact HXn_0.out | apply blk_alloc | apply blk_drewN | apply blk_drew)) hb); clear hb; have zn0_1 := (blk_cell HXn_1.out 0).trans (show _ = some (Value.string a0_0) from rfl); have zn1_1 := (blk_cell HXn_1.out 1).trans (show _ = some (Value.string a0_1) from rfl); have zn2_1 := (blk_cell HXn_1.out 2).trans (show _ = some (Value.int .u8 a0_2) from rfl); have zn3_1 := (blk_cell HXn_1.out 3).trans (show _ = some (Value.int .i64 a0_3) from rfl); have zn4_1 := (blk_cell HXn_1.out 4).trans (show _ = some (Value.int .i64 a0_4) from rfl); have zn5_1 := (blk_cell HXn_1.out 5).trans (show _ = some (Value.int .i64 a0_5) from rfl); have zn6_1 := (blk_cell HXn_1.out 6).trans (show _ = some (Value.int .i64 a0_6) from rfl); have zn7_1 := (blk_cell HXn_1.out 7).trans (show _ = some (Value.string a0_7) from rfl)) | (go_at_call 22; refine (hfew _).mono ?_; rintro e w2 ⟨rfl, hb⟩; have HB2 := Aside0.mk (below_step (by repeat (first | exact HB1.out | apply below_alloc | apply pw_below_drewN | apply below_drew1)) hb); have HXn_2 := Aside0.mk (blk_below (by repeat (first | exact HXn_1.out | apply blk_alloc | apply blk_drewN | apply blk_drew)) hb); clear hb; have zn0_2 := (blk_cell HXn_2.out 0).trans (show _ = some (Value.string a0_0) from rfl); have zn1_2 := (blk_cell HXn_2.out 1).trans (show _ = some (Value.string a0_1) from rfl); have zn2_2 := (blk_cell HXn_2.out 2).trans (show _ = some (Value.int .u8 a0_2) from rfl); have zn3_2 := (blk_cell HXn_2.out 3).trans (show _ = some (Value.int .i64 a0_3) from rfl); have zn4_2 := (blk_cell HXn_2.out 4).trans (show _ = some (Value.int .i64 a0_4) from rfl); have zn5_2 := (blk_cell HXn_2.out 5).trans (show _ = some (Value.int .i64 a0_5) from rfl); have zn6_2 := (blk_cell HXn_2.out 6).trans (show _ = some (Value.int .i64 a0_6) from rfl); have zn7_2 := (blk_cell HXn_2.out 7).trans (show _ = some (Value.string a0_7) from rfl)) | (go_at_call 32; refine (hone _).mono ?_; rintro e w3 ⟨rfl, hb⟩; have HB3 := Aside0.mk (below_step (by repeat (first | exact HB2.out | apply below_alloc | apply pw_below_drewN | apply below_drew1)) hb); have HXn_3 := Aside0.mk (blk_below (by repeat (first | exact HXn_2.out | apply blk_alloc | apply blk_drewN | apply blk_drew)) hb); clear hb; have zn0_3 := (blk_cell HXn_3.out 0).trans (show _ = some (Value.string a0_0) from rfl); have zn1_3 := (blk_cell HXn_3.out 1).trans (show _ = some (Value.string a0_1) from rfl); have zn2_3 := (blk_cell HXn_3.out 2).trans (show _ = some (Value.int .u8 a0_2) from rfl); have zn3_3 := (blk_cell HXn_3.out 3).trans (show _ = some (Value.int .i64 a0_3) from rfl); have zn4_3 := (blk_cell HXn_3.out 4).trans (show _ = some (Value.int .i64 a0_4) from rfl); have zn5_3 := (blk_cell HXn_3.out 5).trans (show _ = some (Value.int .i64 a0_5) from rfl); have zn6_3 := (blk_cell HXn_3.out 6).trans (show _ = some (Value.int .i64 a0_6) from rfl); have zn7_3 := (blk_cell HXn_3.out 7).trans (show _ = some (Value.string a0_7) from rfl)))
  have HBr := Aside0.mk (below_drew1 HB3.out)
  have HXn_r := Aside0.mk (blk_drew HXn_3.out)
  have f1 := F1.out
  have f2 := F2.out
  go_region_held3 (fun w' => w'.cell? ⟨w.heap.size, 0, none⟩ = some (Value.string a0_0) ∧ w'.cell? ⟨w.heap.size, 1, none⟩ = some (Value.string a0_1) ∧ w'.cell? ⟨w.heap.size, 2, none⟩ = some (Value.int .u8 a0_2) ∧ w'.cell? ⟨w.heap.size, 3, none⟩ = some (Value.int .i64 a0_3) ∧ w'.cell? ⟨w.heap.size, 4, none⟩ = some (Value.int .i64 a0_4) ∧ w'.cell? ⟨w.heap.size, 5, none⟩ = some (Value.int .i64 a0_5) ∧ w'.cell? ⟨w.heap.size, 6, none⟩ = some (Value.int .i64 a0_6) ∧ w'.cell? ⟨w.heap.size, 7, none⟩ = some (Value.string a0_7)) (go_keep) (first | (go_at_call 28; refine (hmany _).mono ?_; rintro e wq ⟨rfl, hb⟩; have HBq := Aside0.mk (below_step (by repeat (first | exact HBr.out | apply below_alloc | apply pw_below_drewN | apply below_drew1)) hb); have HXn_r := Aside0.mk (blk_below (by repeat (first | exact HXn_r.out | apply blk_alloc | apply blk_drew)) hb); clear HBr; have HBr := HBq; clear HBq hb; have zn0_r := (blk_cell HXn_r.out 0).trans (show _ = some (Value.string a0_0) from rfl); have zn1_r := (blk_cell HXn_r.out 1).trans (show _ = some (Value.string a0_1) from rfl); have zn2_r := (blk_cell HXn_r.out 2).trans (show _ = some (Value.int .u8 a0_2) from rfl); have zn3_r := (blk_cell HXn_r.out 3).trans (show _ = some (Value.int .i64 a0_3) from rfl); have zn4_r := (blk_cell HXn_r.out 4).trans (show _ = some (Value.int .i64 a0_4) from rfl); have zn5_r := (blk_cell HXn_r.out 5).trans (show _ = some (Value.int .i64 a0_5) from rfl); have zn6_r := (blk_cell HXn_r.out 6).trans (show _ = some (Value.int .i64 a0_6) from rfl); have zn7_r := (blk_cell HXn_r.out 7).trans (show _ = some (Value.string a0_7) from rfl)) | (go_at_call 30; refine (hdata _).mono ?_; rintro e wq ⟨rfl, hb⟩; have HBq := Aside0.mk (below_step (by repeat (first | exact HBr.out | apply below_alloc | apply pw_below_drewN | apply below_drew1)) hb); have HXn_r := Aside0.mk (blk_below (by repeat (first | exact HXn_r.out | apply blk_alloc | apply blk_drew)) hb); clear HBr; have HBr := HBq; clear HBq hb; have zn0_r := (blk_cell HXn_r.out 0).trans (show _ = some (Value.string a0_0) from rfl); have zn1_r := (blk_cell HXn_r.out 1).trans (show _ = some (Value.string a0_1) from rfl); have zn2_r := (blk_cell HXn_r.out 2).trans (show _ = some (Value.int .u8 a0_2) from rfl); have zn3_r := (blk_cell HXn_r.out 3).trans (show _ = some (Value.int .i64 a0_3) from rfl); have zn4_r := (blk_cell HXn_r.out 4).trans (show _ = some (Value.int .i64 a0_4) from rfl); have zn5_r := (blk_cell HXn_r.out 5).trans (show _ = some (Value.int .i64 a0_5) from rfl); have zn6_r := (blk_cell HXn_r.out 6).trans (show _ = some (Value.int .i64 a0_6) from rfl); have zn7_r := (blk_cell HXn_r.out 7).trans (show _ = some (Value.string a0_7) from rfl)))
  all_goals
    clear f1 f2 F1 F2
    rcases hcase with ⟨rfl, c1⟩ | ⟨rfl, c1⟩ | ⟨rfl, c1, c2⟩ | ⟨rfl, c1, c2⟩
    · have d1 : (a0_1.size : Int) ≤ 100 := by omega
      by_cases c3 : 100 < a0_0.size
      · have d3 : (100 : Int) < (a0_0.size : Int) := by omega
        go_wp2_with (first | (go_at_call 30; refine (hdata _).mono ?_; rintro e wq ⟨rfl, hb⟩; have HBq := Aside0.mk (below_step (by repeat (first | exact HBr.out | apply below_alloc | apply pw_below_drewN | apply below_drew1)) hb); have HXn_r := Aside0.mk (blk_below (by repeat (first | exact HXn_r.out | apply blk_alloc | apply blk_drew)) hb); clear HBr; have HBr := HBq; clear HBq hb; have zn0_r := (blk_cell HXn_r.out 0).trans (show _ = some (Value.string a0_0) from rfl); have zn1_r := (blk_cell HXn_r.out 1).trans (show _ = some (Value.string a0_1) from rfl); have zn2_r := (blk_cell HXn_r.out 2).trans (show _ = some (Value.int .u8 a0_2) from rfl); have zn3_r := (blk_cell HXn_r.out 3).trans (show _ = some (Value.int .i64 a0_3) from rfl); have zn4_r := (blk_cell HXn_r.out 4).trans (show _ = some (Value.int .i64 a0_4) from rfl); have zn5_r := (blk_cell HXn_r.out 5).trans (show _ = some (Value.int .i64 a0_5) from rfl); have zn6_r := (blk_cell HXn_r.out 6).trans (show _ = some (Value.int .i64 a0_6) from rfl); have zn7_r := (blk_cell HXn_r.out 7).trans (show _ = some (Value.string a0_7) from rfl)))
        go_ret
        exact ⟨rfl, HBr.out⟩
      · have d3 : decide ((100 : Int) < (a0_0.size : Int)) = false := decide_eq_false (by omega)
        go_wp2_with (first | (go_at_call 30; refine (hdata _).mono ?_; rintro e wq ⟨rfl, hb⟩; have HBq := Aside0.mk (below_step (by repeat (first | exact HBr.out | apply below_alloc | apply pw_below_drewN | apply below_drew1)) hb); have HXn_r := Aside0.mk (blk_below (by repeat (first | exact HXn_r.out | apply blk_alloc | apply blk_drew)) hb); clear HBr; have HBr := HBq; clear HBq hb; have zn0_r := (blk_cell HXn_r.out 0).trans (show _ = some (Value.string a0_0) from rfl); have zn1_r := (blk_cell HXn_r.out 1).trans (show _ = some (Value.string a0_1) from rfl); have zn2_r := (blk_cell HXn_r.out 2).trans (show _ = some (Value.int .u8 a0_2) from rfl); have zn3_r := (blk_cell HXn_r.out 3).trans (show _ = some (Value.int .i64 a0_3) from rfl); have zn4_r := (blk_cell HXn_r.out 4).trans (show _ = some (Value.int .i64 a0_4) from rfl); have zn5_r := (blk_cell HXn_r.out 5).trans (show _ = some (Value.int .i64 a0_5) from rfl); have zn6_r := (blk_cell HXn_r.out 6).trans (show _ = some (Value.int .i64 a0_6) from rfl); have zn7_r := (blk_cell HXn_r.out 7).trans (show _ = some (Value.string a0_7) from rfl)))
        go_ret
        exact ⟨rfl, HBr.out⟩
    · have d1 : decide ((a0_1.size : Int) ≤ 100) = false := decide_eq_false (by omega)
      by_cases c3 : 100 < a0_0.size
      · have d3 : (100 : Int) < (a0_0.size : Int) := by omega
        go_wp2_with (first | (go_at_call 30; refine (hdata _).mono ?_; rintro e wq ⟨rfl, hb⟩; have HBq := Aside0.mk (below_step (by repeat (first | exact HBr.out | apply below_alloc | apply pw_below_drewN | apply below_drew1)) hb); have HXn_r := Aside0.mk (blk_below (by repeat (first | exact HXn_r.out | apply blk_alloc | apply blk_drew)) hb); clear HBr; have HBr := HBq; clear HBq hb; have zn0_r := (blk_cell HXn_r.out 0).trans (show _ = some (Value.string a0_0) from rfl); have zn1_r := (blk_cell HXn_r.out 1).trans (show _ = some (Value.string a0_1) from rfl); have zn2_r := (blk_cell HXn_r.out 2).trans (show _ = some (Value.int .u8 a0_2) from rfl); have zn3_r := (blk_cell HXn_r.out 3).trans (show _ = some (Value.int .i64 a0_3) from rfl); have zn4_r := (blk_cell HXn_r.out 4).trans (show _ = some (Value.int .i64 a0_4) from rfl); have zn5_r := (blk_cell HXn_r.out 5).trans (show _ = some (Value.int .i64 a0_5) from rfl); have zn6_r := (blk_cell HXn_r.out 6).trans (show _ = some (Value.int .i64 a0_6) from rfl); have zn7_r := (blk_cell HXn_r.out 7).trans (show _ = some (Value.string a0_7) from rfl)))
        go_ret
        exact ⟨rfl, HBr.out⟩
      · have d3 : decide ((100 : Int) < (a0_0.size : Int)) = false := decide_eq_false (by omega)
        go_wp2_with (first | (go_at_call 30; refine (hdata _).mono ?_; rintro e wq ⟨rfl, hb⟩; have HBq := Aside0.mk (below_step (by repeat (first | exact HBr.out | apply below_alloc | apply pw_below_drewN | apply below_drew1)) hb); have HXn_r := Aside0.mk (blk_below (by repeat (first | exact HXn_r.out | apply blk_alloc | apply blk_drew)) hb); clear HBr; have HBr := HBq; clear HBq hb; have zn0_r := (blk_cell HXn_r.out 0).trans (show _ = some (Value.string a0_0) from rfl); have zn1_r := (blk_cell HXn_r.out 1).trans (show _ = some (Value.string a0_1) from rfl); have zn2_r := (blk_cell HXn_r.out 2).trans (show _ = some (Value.int .u8 a0_2) from rfl); have zn3_r := (blk_cell HXn_r.out 3).trans (show _ = some (Value.int .i64 a0_3) from rfl); have zn4_r := (blk_cell HXn_r.out 4).trans (show _ = some (Value.int .i64 a0_4) from rfl); have zn5_r := (blk_cell HXn_r.out 5).trans (show _ = some (Value.int .i64 a0_5) from rfl); have zn6_r := (blk_cell HXn_r.out 6).trans (show _ = some (Value.int .i64 a0_6) from rfl); have zn7_r := (blk_cell HXn_r.out 7).trans (show _ = some (Value.string a0_7) from rfl)))
        go_ret
        exact ⟨rfl, HBr.out⟩
    · have d1 : (a0_1.size : Int) ≤ 100 := by omega
      have d3 : (100 : Int) < (a0_0.size : Int) := by omega
      go_wp2_with (first | (go_at_call 30; refine (hdata _).mono ?_; rintro e wq ⟨rfl, hb⟩; have HBq := Aside0.mk (below_step (by repeat (first | exact HBr.out | apply below_alloc | apply pw_below_drewN | apply below_drew1)) hb); have HXn_r := Aside0.mk (blk_below (by repeat (first | exact HXn_r.out | apply blk_alloc | apply blk_drew)) hb); clear HBr; have HBr := HBq; clear HBq hb; have zn0_r := (blk_cell HXn_r.out 0).trans (show _ = some (Value.string a0_0) from rfl); have zn1_r := (blk_cell HXn_r.out 1).trans (show _ = some (Value.string a0_1) from rfl); have zn2_r := (blk_cell HXn_r.out 2).trans (show _ = some (Value.int .u8 a0_2) from rfl); have zn3_r := (blk_cell HXn_r.out 3).trans (show _ = some (Value.int .i64 a0_3) from rfl); have zn4_r := (blk_cell HXn_r.out 4).trans (show _ = some (Value.int .i64 a0_4) from rfl); have zn5_r := (blk_cell HXn_r.out 5).trans (show _ = some (Value.int .i64 a0_5) from rfl); have zn6_r := (blk_cell HXn_r.out 6).trans (show _ = some (Value.int .i64 a0_6) from rfl); have zn7_r := (blk_cell HXn_r.out 7).trans (show _ = some (Value.string a0_7) from rfl)))
      go_ret
      exact ⟨rfl, HBr.out⟩
    · have d1 : decide ((a0_1.size : Int) ≤ 100) = false := decide_eq_false (by omega)
      have d3 : (100 : Int) < (a0_0.size : Int) := by omega
      go_wp2_with (first | (go_at_call 30; refine (hdata _).mono ?_; rintro e wq ⟨rfl, hb⟩; have HBq := Aside0.mk (below_step (by repeat (first | exact HBr.out | apply below_alloc | apply pw_below_drewN | apply below_drew1)) hb); have HXn_r := Aside0.mk (blk_below (by repeat (first | exact HXn_r.out | apply blk_alloc | apply blk_drew)) hb); clear HBr; have HBr := HBq; clear HBq hb; have zn0_r := (blk_cell HXn_r.out 0).trans (show _ = some (Value.string a0_0) from rfl); have zn1_r := (blk_cell HXn_r.out 1).trans (show _ = some (Value.string a0_1) from rfl); have zn2_r := (blk_cell HXn_r.out 2).trans (show _ = some (Value.int .u8 a0_2) from rfl); have zn3_r := (blk_cell HXn_r.out 3).trans (show _ = some (Value.int .i64 a0_3) from rfl); have zn4_r := (blk_cell HXn_r.out 4).trans (show _ = some (Value.int .i64 a0_4) from rfl); have zn5_r := (blk_cell HXn_r.out 5).trans (show _ = some (Value.int .i64 a0_5) from rfl); have zn6_r := (blk_cell HXn_r.out 6).trans (show _ = some (Value.int .i64 a0_6) from rfl); have zn7_r := (blk_cell HXn_r.out 7).trans (show _ = some (Value.string a0_7) from rfl)))
      go_ret
      exact ⟨rfl, HBr.out⟩
set_option maxHeartbeats 1600000 in
set_option maxRecDepth 100000 in
theorem reelkeeperlaw07_EntryMany.calls (k : Nat) (a0_0 a0_1 : ByteArray) (a0_2 a0_3 a0_4 a0_5 a0_6 : Int) (a0_7 : ByteArray) (r : Bool) (w : World) (h : reelkeeperlaw07_EntryMany.f k a0_0 a0_1 a0_2 a0_3 a0_4 a0_5 a0_6 a0_7 = some r) :
    Calls Try.prog 5 #[.agg #[.string a0_0, .string a0_1, .int .u8 a0_2, .int .i64 a0_3, .int .i64 a0_4, .int .i64 a0_5, .int .i64 a0_6, .string a0_7]] w fun e w' => e = .returned (.bool r) ∧ Below w.heap.size w w' := by
  obtain rfl : true = r := Option.some.inj h
  clear h
  have hfew := fun W => reelkeeperlaw05_Few.calls a0_0 a0_1 a0_2 a0_3 a0_4 a0_5 a0_6 a0_7 _ W (few5 ⟨a0_0, a0_1, a0_2, a0_3, a0_4, a0_5, a0_6, a0_7⟩)
  have hup := fun W => awake7.at_ W
  cases hn : okN ⟨a0_0, a0_1, a0_2, a0_3, a0_4, a0_5, a0_6, a0_7⟩ with
  | false =>
    rw [hn] at hfew
    clear hn
    have HB0 := Aside0.mk (Below.refl w.heap.size w)
    have HB0 := Aside0.mk (below_alloc HB0.out (.cells #[.string a0_0, .string a0_1, .int .u8 a0_2, .int .i64 a0_3, .int .i64 a0_4, .int .i64 a0_5, .int .i64 a0_6, .string a0_7] 23))
    have HXn_0 := Aside0.mk (heap_alloc_new w (.cells #[.string a0_0, .string a0_1, .int .u8 a0_2, .int .i64 a0_3, .int .i64 a0_4, .int .i64 a0_5, .int .i64 a0_6, .string a0_7] 23))
    go_enter Try.func5, Try.ntmps5
    go_wp2_with (first | (go_at_call 21; refine (hup _).mono ?_; rintro e w1 ⟨rfl, hb⟩; have HB1 := Aside0.mk (below_step (by repeat (first | exact HB0.out | apply below_alloc | apply pw_below_drewN | apply below_drew1)) hb); have HXn_1 := Aside0.mk (blk_below (by repeat (first | exact HXn_0.out | apply blk_alloc | apply blk_drewN | apply blk_drew)) hb); clear hb; have zn0_1 := (blk_cell HXn_1.out 0).trans (show _ = some (Value.string a0_0) from rfl); have zn1_1 := (blk_cell HXn_1.out 1).trans (show _ = some (Value.string a0_1) from rfl); have zn2_1 := (blk_cell HXn_1.out 2).trans (show _ = some (Value.int .u8 a0_2) from rfl); have zn3_1 := (blk_cell HXn_1.out 3).trans (show _ = some (Value.int .i64 a0_3) from rfl); have zn4_1 := (blk_cell HXn_1.out 4).trans (show _ = some (Value.int .i64 a0_4) from rfl); have zn5_1 := (blk_cell HXn_1.out 5).trans (show _ = some (Value.int .i64 a0_5) from rfl); have zn6_1 := (blk_cell HXn_1.out 6).trans (show _ = some (Value.int .i64 a0_6) from rfl); have zn7_1 := (blk_cell HXn_1.out 7).trans (show _ = some (Value.string a0_7) from rfl)) | (go_at_call 22; refine (hfew _).mono ?_; rintro e w2 ⟨rfl, hb⟩; have HB2 := Aside0.mk (below_step (by repeat (first | exact HB1.out | apply below_alloc | apply pw_below_drewN | apply below_drew1)) hb); have HXn_2 := Aside0.mk (blk_below (by repeat (first | exact HXn_1.out | apply blk_alloc | apply blk_drewN | apply blk_drew)) hb); clear hb; have zn0_2 := (blk_cell HXn_2.out 0).trans (show _ = some (Value.string a0_0) from rfl); have zn1_2 := (blk_cell HXn_2.out 1).trans (show _ = some (Value.string a0_1) from rfl); have zn2_2 := (blk_cell HXn_2.out 2).trans (show _ = some (Value.int .u8 a0_2) from rfl); have zn3_2 := (blk_cell HXn_2.out 3).trans (show _ = some (Value.int .i64 a0_3) from rfl); have zn4_2 := (blk_cell HXn_2.out 4).trans (show _ = some (Value.int .i64 a0_4) from rfl); have zn5_2 := (blk_cell HXn_2.out 5).trans (show _ = some (Value.int .i64 a0_5) from rfl); have zn6_2 := (blk_cell HXn_2.out 6).trans (show _ = some (Value.int .i64 a0_6) from rfl); have zn7_2 := (blk_cell HXn_2.out 7).trans (show _ = some (Value.string a0_7) from rfl)))
    go_ret
    exact ⟨rfl, HB2.out⟩
  | true =>
  obtain ⟨h0, h1, _⟩ := okN_iff.1 hn
  rw [hn] at hfew
  have hb := one_b ⟨a0_0, a0_1, a0_2, a0_3, a0_4, a0_5, a0_6, a0_7⟩ (Nat.le_trans h0 (by decide)) (Nat.le_trans h1 (by decide))
  cases ho : oneB ⟨a0_0, a0_1, a0_2, a0_3, a0_4, a0_5, a0_6, a0_7⟩ with
  | false =>
    have hone := fun W => tree_One.calls a0_0 a0_1 a0_2 a0_3 a0_4 a0_5 a0_6 a0_7 false W (hb.trans (congrArg some ho))
    clear hn ho hb h0 h1
    have HB0 := Aside0.mk (Below.refl w.heap.size w)
    have HB0 := Aside0.mk (below_alloc HB0.out (.cells #[.string a0_0, .string a0_1, .int .u8 a0_2, .int .i64 a0_3, .int .i64 a0_4, .int .i64 a0_5, .int .i64 a0_6, .string a0_7] 23))
    have HXn_0 := Aside0.mk (heap_alloc_new w (.cells #[.string a0_0, .string a0_1, .int .u8 a0_2, .int .i64 a0_3, .int .i64 a0_4, .int .i64 a0_5, .int .i64 a0_6, .string a0_7] 23))
    go_enter Try.func5, Try.ntmps5
    go_wp2_with (first | (go_at_call 21; refine (hup _).mono ?_; rintro e w1 ⟨rfl, hb⟩; have HB1 := Aside0.mk (below_step (by repeat (first | exact HB0.out | apply below_alloc | apply pw_below_drewN | apply below_drew1)) hb); have HXn_1 := Aside0.mk (blk_below (by repeat (first | exact HXn_0.out | apply blk_alloc | apply blk_drewN | apply blk_drew)) hb); clear hb; have zn0_1 := (blk_cell HXn_1.out 0).trans (show _ = some (Value.string a0_0) from rfl); have zn1_1 := (blk_cell HXn_1.out 1).trans (show _ = some (Value.string a0_1) from rfl); have zn2_1 := (blk_cell HXn_1.out 2).trans (show _ = some (Value.int .u8 a0_2) from rfl); have zn3_1 := (blk_cell HXn_1.out 3).trans (show _ = some (Value.int .i64 a0_3) from rfl); have zn4_1 := (blk_cell HXn_1.out 4).trans (show _ = some (Value.int .i64 a0_4) from rfl); have zn5_1 := (blk_cell HXn_1.out 5).trans (show _ = some (Value.int .i64 a0_5) from rfl); have zn6_1 := (blk_cell HXn_1.out 6).trans (show _ = some (Value.int .i64 a0_6) from rfl); have zn7_1 := (blk_cell HXn_1.out 7).trans (show _ = some (Value.string a0_7) from rfl)) | (go_at_call 22; refine (hfew _).mono ?_; rintro e w2 ⟨rfl, hb⟩; have HB2 := Aside0.mk (below_step (by repeat (first | exact HB1.out | apply below_alloc | apply pw_below_drewN | apply below_drew1)) hb); have HXn_2 := Aside0.mk (blk_below (by repeat (first | exact HXn_1.out | apply blk_alloc | apply blk_drewN | apply blk_drew)) hb); clear hb; have zn0_2 := (blk_cell HXn_2.out 0).trans (show _ = some (Value.string a0_0) from rfl); have zn1_2 := (blk_cell HXn_2.out 1).trans (show _ = some (Value.string a0_1) from rfl); have zn2_2 := (blk_cell HXn_2.out 2).trans (show _ = some (Value.int .u8 a0_2) from rfl); have zn3_2 := (blk_cell HXn_2.out 3).trans (show _ = some (Value.int .i64 a0_3) from rfl); have zn4_2 := (blk_cell HXn_2.out 4).trans (show _ = some (Value.int .i64 a0_4) from rfl); have zn5_2 := (blk_cell HXn_2.out 5).trans (show _ = some (Value.int .i64 a0_5) from rfl); have zn6_2 := (blk_cell HXn_2.out 6).trans (show _ = some (Value.int .i64 a0_6) from rfl); have zn7_2 := (blk_cell HXn_2.out 7).trans (show _ = some (Value.string a0_7) from rfl)) | (go_at_call 32; refine (hone _).mono ?_; rintro e w3 ⟨rfl, hb⟩; have HB3 := Aside0.mk (below_step (by repeat (first | exact HB2.out | apply below_alloc | apply pw_below_drewN | apply below_drew1)) hb); have HXn_3 := Aside0.mk (blk_below (by repeat (first | exact HXn_2.out | apply blk_alloc | apply blk_drewN | apply blk_drew)) hb); clear hb; have zn0_3 := (blk_cell HXn_3.out 0).trans (show _ = some (Value.string a0_0) from rfl); have zn1_3 := (blk_cell HXn_3.out 1).trans (show _ = some (Value.string a0_1) from rfl); have zn2_3 := (blk_cell HXn_3.out 2).trans (show _ = some (Value.int .u8 a0_2) from rfl); have zn3_3 := (blk_cell HXn_3.out 3).trans (show _ = some (Value.int .i64 a0_3) from rfl); have zn4_3 := (blk_cell HXn_3.out 4).trans (show _ = some (Value.int .i64 a0_4) from rfl); have zn5_3 := (blk_cell HXn_3.out 5).trans (show _ = some (Value.int .i64 a0_5) from rfl); have zn6_3 := (blk_cell HXn_3.out 6).trans (show _ = some (Value.int .i64 a0_6) from rfl); have zn7_3 := (blk_cell HXn_3.out 7).trans (show _ = some (Value.string a0_7) from rfl)))
    go_ret
    exact ⟨rfl, HB3.out⟩
  | true =>
    have hone := fun W => tree_One.calls a0_0 a0_1 a0_2 a0_3 a0_4 a0_5 a0_6 a0_7 true W (hb.trans (congrArg some ho))
    have hf := oneB_facts ho
    obtain ⟨n, hnn⟩ : ∃ n : Nd, n = ⟨a0_0, a0_1, a0_2, a0_3, a0_4, a0_5, a0_6, a0_7⟩ := ⟨_, rfl⟩
    rw [← hnn] at hf ho
    have e0 : a0_0 = n.f0 := by rw [hnn]
    have e1 : a0_1 = n.f1 := by rw [hnn]
    have e7 : a0_7 = n.f7 := by rw [hnn]
    have hp := entryPut_yes ho
    have hl := entryB_length hf
    have hc := aheadB_count hf
    have hd := hf.data
    have hm : entry_Many.f a0_0 a0_1 a0_2 a0_3 a0_4 a0_5 a0_6 a0_7 = some ((aheadB n.f0 n.f1).length + 1 + (manyB n.f7.size : Int)) := by
      unfold entry_Many.f
      rw [hnn] at hp
      rw [hp, ← hnn]
      simp only [Option.bind_some]
      exact congrArg some (by rw [hl]; omega)
    have hdt : entry_Data.f a0_0 a0_1 a0_2 a0_3 a0_4 a0_5 a0_6 a0_7 = some (manyB n.f7.size : Int) := by
      unfold entry_Data.f
      rw [show tree_One.f a0_0 a0_1 a0_2 a0_3 a0_4 a0_5 a0_6 a0_7 = some true from hb.trans (congrArg some (by rw [← hnn]; exact ho))]
      simp only [Option.bind_some, if_true]
      rw [e7, many_f (by omega)]
      rfl
    refine EntryMany_walk a0_0 a0_1 a0_2 a0_3 a0_4 a0_5 a0_6 a0_7 w _ _ (by unfold manyB; omega) ?_ hfew hone (fun W => entry_Many.calls a0_0 a0_1 a0_2 a0_3 a0_4 a0_5 a0_6 a0_7 _ W hm) (fun W => entry_Data.calls a0_0 a0_1 a0_2 a0_3 a0_4 a0_5 a0_6 a0_7 _ W hdt)
    rw [e0, e1, hc]
    by_cases c1 : 100 < n.f1.size
    · rw [if_pos c1]
      by_cases c2 : (needsB n.f0 n.f1).1 = true
      · rw [if_pos c2]; exact .inr (.inr (.inr ⟨rfl, c1, needs_big hf c2⟩))
      · rw [if_neg c2]; exact .inr (.inl ⟨rfl, c1⟩)
    · rw [if_neg c1]
      by_cases c2 : (needsB n.f0 n.f1).1 = true
      · rw [if_pos c2]; exact .inr (.inr (.inl ⟨rfl, by omega, needs_big hf c2⟩))
      · rw [if_neg c2]; exact .inl ⟨rfl, by omega⟩

end Go.Proofs.Ytlecnodlnkanaaa.X
