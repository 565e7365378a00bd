import Derived.Test.YtoahjigjlgcjkaaXK
import Derived.Test.YtoahjigjlgcjkaaXGpb
import Derived.Test.YtoahjigjlgcjkaaXGpi
import Derived.Test.YtoahjigjlgcjkaaXGpj
import Derived.Test.YtoahjigjlgcjkaaXGpk
import Derived.Test.YtoahjigjlgcjkaaXGpmay
import Derived.Test.YtoahjigjlgcjkaaXreelkeeperlaw09FewState
import Derived.Test.YtoahjigjlgcjkaaYAll
import Derived.Test.YtoahjigjlgcjkaaP04g
import Derived.Test.YtoahjigjlgcjkaaPGA
import Derived.Test.YtoahjigjlgcjkaaPGE
import Derived.Deep.RegionHeld3
import Derived.Laws.EntriesVeiled
import Derived.WalkSpells
namespace Go.Proofs.Ytoahjigjlgcjkaa.X
open Go.RowKit Go.Proofs.YtoahjigjlgcjkaaW.PrintWords Go.Proofs.YtoahjigjlgcjkaaW.PrintLast Go.Proofs.YtoahjigjlgcjkaaW.PrintMore
attribute [local go_sem] max2_int min2_int max_two min_two
set_option linter.unusedVariables false
set_option linter.unusedSimpArgs false

open Go.Proofs.YtoahjigjlgcjkaaY
set_option maxRecDepth 100000
def reelkeeperlaw09_ParseStays.f (k : Nat) (s : Pst) (l : List Int) : Option Bool := some true
theorem ParseStays_told (s : Pst) (l : List Int) : ∃ k, reelkeeperlaw09_ParseStays.f k s l = some true := ⟨0, rfl⟩
set_option maxHeartbeats 3200000 in
theorem parse_stays.at_ (s : Pst) (A : Option Addr) (c : Nat) (x : List Int) (w : World) (hC : Kd.C (Kd.int .u8) w A x.length x) (hc : x.length ≤ c) (hby : ∀ y ∈ x, 0 ≤ y ∧ y ≤ 255) :
    Calls Try.prog 3 #[.agg #[.int .i64 s.f0, .string s.f1.f0, .string s.f1.f1, .int .u8 s.f1.f2, .int .i64 s.f1.f3, .int .i64 s.f1.f4, .int .i64 s.f1.f5, .int .i64 s.f1.f6, .string s.f1.f7, .int .i64 s.f2, .int .i64 s.f3, .string s.f4, .string s.f5, .string s.f6], .slice A x.length c] w fun e w' => e = .returned (.bool true) ∧ Below w.heap.size w w' := by
  have HC := Aside0.mk hC
  have hup := fun W => awake9.at_ W
  have hfew := fun W => reelkeeperlaw09_FewState.calls s.f0 s.f1.f0 s.f1.f1 s.f1.f2 s.f1.f3 s.f1.f4 s.f1.f5 s.f1.f6 s.f1.f7 s.f2 s.f3 s.f4 s.f5 s.f6 _ W (fewS_f s)
  have HB0 := Aside0.mk (below_alloc (Below.refl w.heap.size w) (.cells #[.int .i64 s.f0, .string s.f1.f0, .string s.f1.f1, .int .u8 s.f1.f2, .int .i64 s.f1.f3, .int .i64 s.f1.f4, .int .i64 s.f1.f5, .int .i64 s.f1.f6, .string s.f1.f7, .int .i64 s.f2, .int .i64 s.f3, .string s.f4, .string s.f5, .string s.f6] 25))
  have HS0 := Aside0.mk (heap_alloc_new w (.cells #[.int .i64 s.f0, .string s.f1.f0, .string s.f1.f1, .int .u8 s.f1.f2, .int .i64 s.f1.f3, .int .i64 s.f1.f4, .int .i64 s.f1.f5, .int .i64 s.f1.f6, .string s.f1.f7, .int .i64 s.f2, .int .i64 s.f3, .string s.f4, .string s.f5, .string s.f6] 25))
  have z0_0 := (blk_cell HS0.out 0).trans (show _ = some (Value.int .i64 s.f0) from rfl)
  have z1_0 := (blk_cell HS0.out 1).trans (show _ = some (Value.string s.f1.f0) from rfl)
  have z2_0 := (blk_cell HS0.out 2).trans (show _ = some (Value.string s.f1.f1) from rfl)
  have z3_0 := (blk_cell HS0.out 3).trans (show _ = some (Value.int .u8 s.f1.f2) from rfl)
  have z4_0 := (blk_cell HS0.out 4).trans (show _ = some (Value.int .i64 s.f1.f3) from rfl)
  have z5_0 := (blk_cell HS0.out 5).trans (show _ = some (Value.int .i64 s.f1.f4) from rfl)
  have z6_0 := (blk_cell HS0.out 6).trans (show _ = some (Value.int .i64 s.f1.f5) from rfl)
  have z7_0 := (blk_cell HS0.out 7).trans (show _ = some (Value.int .i64 s.f1.f6) from rfl)
  have z8_0 := (blk_cell HS0.out 8).trans (show _ = some (Value.string s.f1.f7) from rfl)
  have z9_0 := (blk_cell HS0.out 9).trans (show _ = some (Value.int .i64 s.f2) from rfl)
  have z10_0 := (blk_cell HS0.out 10).trans (show _ = some (Value.int .i64 s.f3) from rfl)
  have z11_0 := (blk_cell HS0.out 11).trans (show _ = some (Value.string s.f4) from rfl)
  have z12_0 := (blk_cell HS0.out 12).trans (show _ = some (Value.string s.f5) from rfl)
  have z13_0 := (blk_cell HS0.out 13).trans (show _ = some (Value.string s.f6) from rfl)
  clear hC
  cases hf : fewS s with
  | false =>
    rw [hf] at hfew
    clear hf
    go_enter Try.func3, Try.ntmps3
    go_wp2_with (first | (go_at_call 10; refine (hup _).mono ?_; rintro e_ w1 ⟨rfl, hb_⟩; have HB1 := Aside0.mk (below_step HB0.out hb_); have HS1 := Aside0.mk (blk_below HS0.out hb_); clear hb_; have z0_1 := (blk_cell HS1.out 0).trans (show _ = some (Value.int .i64 s.f0) from rfl); have z1_1 := (blk_cell HS1.out 1).trans (show _ = some (Value.string s.f1.f0) from rfl); have z2_1 := (blk_cell HS1.out 2).trans (show _ = some (Value.string s.f1.f1) from rfl); have z3_1 := (blk_cell HS1.out 3).trans (show _ = some (Value.int .u8 s.f1.f2) from rfl); have z4_1 := (blk_cell HS1.out 4).trans (show _ = some (Value.int .i64 s.f1.f3) from rfl); have z5_1 := (blk_cell HS1.out 5).trans (show _ = some (Value.int .i64 s.f1.f4) from rfl); have z6_1 := (blk_cell HS1.out 6).trans (show _ = some (Value.int .i64 s.f1.f5) from rfl); have z7_1 := (blk_cell HS1.out 7).trans (show _ = some (Value.int .i64 s.f1.f6) from rfl); have z8_1 := (blk_cell HS1.out 8).trans (show _ = some (Value.string s.f1.f7) from rfl); have z9_1 := (blk_cell HS1.out 9).trans (show _ = some (Value.int .i64 s.f2) from rfl); have z10_1 := (blk_cell HS1.out 10).trans (show _ = some (Value.int .i64 s.f3) from rfl); have z11_1 := (blk_cell HS1.out 11).trans (show _ = some (Value.string s.f4) from rfl); have z12_1 := (blk_cell HS1.out 12).trans (show _ = some (Value.string s.f5) from rfl); have z13_1 := (blk_cell HS1.out 13).trans (show _ = some (Value.string s.f6) from rfl)) | (go_at_call 11; refine (hfew _).mono ?_; rintro e_ w2 ⟨rfl, hb_⟩; have HB2 := Aside0.mk (below_step HB1.out hb_); have HS2 := Aside0.mk (blk_below HS1.out hb_); clear hb_ HB1 HS1 z0_1 z1_1 z2_1 z3_1 z4_1 z5_1 z6_1 z7_1 z8_1 z9_1 z10_1 z11_1 z12_1 z13_1; have z0_2 := (blk_cell HS2.out 0).trans (show _ = some (Value.int .i64 s.f0) from rfl); have z1_2 := (blk_cell HS2.out 1).trans (show _ = some (Value.string s.f1.f0) from rfl); have z2_2 := (blk_cell HS2.out 2).trans (show _ = some (Value.string s.f1.f1) from rfl); have z3_2 := (blk_cell HS2.out 3).trans (show _ = some (Value.int .u8 s.f1.f2) from rfl); have z4_2 := (blk_cell HS2.out 4).trans (show _ = some (Value.int .i64 s.f1.f3) from rfl); have z5_2 := (blk_cell HS2.out 5).trans (show _ = some (Value.int .i64 s.f1.f4) from rfl); have z6_2 := (blk_cell HS2.out 6).trans (show _ = some (Value.int .i64 s.f1.f5) from rfl); have z7_2 := (blk_cell HS2.out 7).trans (show _ = some (Value.int .i64 s.f1.f6) from rfl); have z8_2 := (blk_cell HS2.out 8).trans (show _ = some (Value.string s.f1.f7) from rfl); have z9_2 := (blk_cell HS2.out 9).trans (show _ = some (Value.int .i64 s.f2) from rfl); have z10_2 := (blk_cell HS2.out 10).trans (show _ = some (Value.int .i64 s.f3) from rfl); have z11_2 := (blk_cell HS2.out 11).trans (show _ = some (Value.string s.f4) from rfl); have z12_2 := (blk_cell HS2.out 12).trans (show _ = some (Value.string s.f5) from rfl); have z13_2 := (blk_cell HS2.out 13).trans (show _ = some (Value.string s.f6) from rfl)))
    go_ret
    exact ⟨rfl, HB2.out⟩
  | true =>
    rw [hf] at hfew
    have hok := fewS_ok hf
    clear hf
    by_cases h6 : 600 < x.length
    · have hb6 : decide ((x.length : Int) > 600) = true := decide_eq_true (by omega)
      have hb7 : decide ((600 : Int) < (x.length : Int)) = true := decide_eq_true (by omega)
      have hb8 : decide (600 < x.length) = true := decide_eq_true h6
      clear h6
      go_enter Try.func3, Try.ntmps3
      go_wp2_with (first | (go_at_call 10; refine (hup _).mono ?_; rintro e_ w1 ⟨rfl, hb_⟩; have HB1 := Aside0.mk (below_step HB0.out hb_); have HS1 := Aside0.mk (blk_below HS0.out hb_); clear hb_; have z0_1 := (blk_cell HS1.out 0).trans (show _ = some (Value.int .i64 s.f0) from rfl); have z1_1 := (blk_cell HS1.out 1).trans (show _ = some (Value.string s.f1.f0) from rfl); have z2_1 := (blk_cell HS1.out 2).trans (show _ = some (Value.string s.f1.f1) from rfl); have z3_1 := (blk_cell HS1.out 3).trans (show _ = some (Value.int .u8 s.f1.f2) from rfl); have z4_1 := (blk_cell HS1.out 4).trans (show _ = some (Value.int .i64 s.f1.f3) from rfl); have z5_1 := (blk_cell HS1.out 5).trans (show _ = some (Value.int .i64 s.f1.f4) from rfl); have z6_1 := (blk_cell HS1.out 6).trans (show _ = some (Value.int .i64 s.f1.f5) from rfl); have z7_1 := (blk_cell HS1.out 7).trans (show _ = some (Value.int .i64 s.f1.f6) from rfl); have z8_1 := (blk_cell HS1.out 8).trans (show _ = some (Value.string s.f1.f7) from rfl); have z9_1 := (blk_cell HS1.out 9).trans (show _ = some (Value.int .i64 s.f2) from rfl); have z10_1 := (blk_cell HS1.out 10).trans (show _ = some (Value.int .i64 s.f3) from rfl); have z11_1 := (blk_cell HS1.out 11).trans (show _ = some (Value.string s.f4) from rfl); have z12_1 := (blk_cell HS1.out 12).trans (show _ = some (Value.string s.f5) from rfl); have z13_1 := (blk_cell HS1.out 13).trans (show _ = some (Value.string s.f6) from rfl)) | (go_at_call 11; refine (hfew _).mono ?_; rintro e_ w2 ⟨rfl, hb_⟩; have HB2 := Aside0.mk (below_step HB1.out hb_); have HS2 := Aside0.mk (blk_below HS1.out hb_); clear hb_ HB1 HS1 z0_1 z1_1 z2_1 z3_1 z4_1 z5_1 z6_1 z7_1 z8_1 z9_1 z10_1 z11_1 z12_1 z13_1; have z0_2 := (blk_cell HS2.out 0).trans (show _ = some (Value.int .i64 s.f0) from rfl); have z1_2 := (blk_cell HS2.out 1).trans (show _ = some (Value.string s.f1.f0) from rfl); have z2_2 := (blk_cell HS2.out 2).trans (show _ = some (Value.string s.f1.f1) from rfl); have z3_2 := (blk_cell HS2.out 3).trans (show _ = some (Value.int .u8 s.f1.f2) from rfl); have z4_2 := (blk_cell HS2.out 4).trans (show _ = some (Value.int .i64 s.f1.f3) from rfl); have z5_2 := (blk_cell HS2.out 5).trans (show _ = some (Value.int .i64 s.f1.f4) from rfl); have z6_2 := (blk_cell HS2.out 6).trans (show _ = some (Value.int .i64 s.f1.f5) from rfl); have z7_2 := (blk_cell HS2.out 7).trans (show _ = some (Value.int .i64 s.f1.f6) from rfl); have z8_2 := (blk_cell HS2.out 8).trans (show _ = some (Value.string s.f1.f7) from rfl); have z9_2 := (blk_cell HS2.out 9).trans (show _ = some (Value.int .i64 s.f2) from rfl); have z10_2 := (blk_cell HS2.out 10).trans (show _ = some (Value.int .i64 s.f3) from rfl); have z11_2 := (blk_cell HS2.out 11).trans (show _ = some (Value.string s.f4) from rfl); have z12_2 := (blk_cell HS2.out 12).trans (show _ = some (Value.string s.f5) from rfl); have z13_2 := (blk_cell HS2.out 13).trans (show _ = some (Value.string s.f6) from rfl)))
      go_ret
      exact ⟨rfl, HB2.out⟩
    · have hb6 : decide ((x.length : Int) > 600) = false := decide_eq_false (by omega)
      have hb7 : decide ((600 : Int) < (x.length : Int)) = false := decide_eq_false (by omega)
      have hb8 : decide (600 < x.length) = false := decide_eq_false h6
      have hstep := fun W hC => parse_Step.at_ s ⟨hok.1, hok.2.1, hok.2.2.1, hok.2.2.2⟩ A c x W hC hc hby
      have hsz := (stepR_ok (x := x) hok)
      obtain ⟨Q, hQ⟩ : ∃ Q, stepR s x = Q := ⟨_, rfl⟩
      have hno := @stepR_no s x
      have hyes := @stepR_ok2 s x hby
      rw [hQ] at hstep hno hyes hsz
      obtain ⟨t, l, e0⟩ := Q
      simp only at hno hyes hsz
      have hms := fun W => parse_May.at_ s (Nat.le_trans hok.2.2.1 (by decide)) (Nat.le_trans hok.2.2.2 (by decide)) W
      have hmt := fun W => parse_May.at_ t (Nat.le_trans hsz.1.2.2.1 (by decide)) (Nat.le_trans hsz.1.2.2.2 (by decide)) W
      have hl2 := hsz.2
      unfold StepPost at hstep
      simp only at hstep
      clear h6 hQ hok hsz
      by_cases h0 : e0 = 0
      · obtain ⟨m1, -, m2, -⟩ := hyes h0
        subst h0
        rw [m1] at hms
        rw [m2] at hmt
        have b0 : ((0 : Int) != 0) = false := rfl
        have b2 : decide ((l.length : Int) ≤ 2) = true := decide_eq_true (by omega)
        have b3 : decide (l.length ≤ 2) = true := decide_eq_true hl2
        clear m1 m2 hno hyes hl2
        go_enter Try.func3, Try.ntmps3
        go_upto_region 5 with (first | (go_at_call 10; refine (hup _).mono ?_; rintro e_ w1 ⟨rfl, hb_⟩; have HB1 := Aside0.mk (below_step HB0.out hb_); have HS1 := Aside0.mk (blk_below HS0.out hb_); clear hb_; have z0_1 := (blk_cell HS1.out 0).trans (show _ = some (Value.int .i64 s.f0) from rfl); have z1_1 := (blk_cell HS1.out 1).trans (show _ = some (Value.string s.f1.f0) from rfl); have z2_1 := (blk_cell HS1.out 2).trans (show _ = some (Value.string s.f1.f1) from rfl); have z3_1 := (blk_cell HS1.out 3).trans (show _ = some (Value.int .u8 s.f1.f2) from rfl); have z4_1 := (blk_cell HS1.out 4).trans (show _ = some (Value.int .i64 s.f1.f3) from rfl); have z5_1 := (blk_cell HS1.out 5).trans (show _ = some (Value.int .i64 s.f1.f4) from rfl); have z6_1 := (blk_cell HS1.out 6).trans (show _ = some (Value.int .i64 s.f1.f5) from rfl); have z7_1 := (blk_cell HS1.out 7).trans (show _ = some (Value.int .i64 s.f1.f6) from rfl); have z8_1 := (blk_cell HS1.out 8).trans (show _ = some (Value.string s.f1.f7) from rfl); have z9_1 := (blk_cell HS1.out 9).trans (show _ = some (Value.int .i64 s.f2) from rfl); have z10_1 := (blk_cell HS1.out 10).trans (show _ = some (Value.int .i64 s.f3) from rfl); have z11_1 := (blk_cell HS1.out 11).trans (show _ = some (Value.string s.f4) from rfl); have z12_1 := (blk_cell HS1.out 12).trans (show _ = some (Value.string s.f5) from rfl); have z13_1 := (blk_cell HS1.out 13).trans (show _ = some (Value.string s.f6) from rfl)) | (go_at_call 11; refine (hfew _).mono ?_; rintro e_ w2 ⟨rfl, hb_⟩; have HB2 := Aside0.mk (below_step HB1.out hb_); have HS2 := Aside0.mk (blk_below HS1.out hb_); clear hb_ HB1 HS1 z0_1 z1_1 z2_1 z3_1 z4_1 z5_1 z6_1 z7_1 z8_1 z9_1 z10_1 z11_1 z12_1 z13_1; have z0_2 := (blk_cell HS2.out 0).trans (show _ = some (Value.int .i64 s.f0) from rfl); have z1_2 := (blk_cell HS2.out 1).trans (show _ = some (Value.string s.f1.f0) from rfl); have z2_2 := (blk_cell HS2.out 2).trans (show _ = some (Value.string s.f1.f1) from rfl); have z3_2 := (blk_cell HS2.out 3).trans (show _ = some (Value.int .u8 s.f1.f2) from rfl); have z4_2 := (blk_cell HS2.out 4).trans (show _ = some (Value.int .i64 s.f1.f3) from rfl); have z5_2 := (blk_cell HS2.out 5).trans (show _ = some (Value.int .i64 s.f1.f4) from rfl); have z6_2 := (blk_cell HS2.out 6).trans (show _ = some (Value.int .i64 s.f1.f5) from rfl); have z7_2 := (blk_cell HS2.out 7).trans (show _ = some (Value.int .i64 s.f1.f6) from rfl); have z8_2 := (blk_cell HS2.out 8).trans (show _ = some (Value.string s.f1.f7) from rfl); have z9_2 := (blk_cell HS2.out 9).trans (show _ = some (Value.int .i64 s.f2) from rfl); have z10_2 := (blk_cell HS2.out 10).trans (show _ = some (Value.int .i64 s.f3) from rfl); have z11_2 := (blk_cell HS2.out 11).trans (show _ = some (Value.string s.f4) from rfl); have z12_2 := (blk_cell HS2.out 12).trans (show _ = some (Value.string s.f5) from rfl); have z13_2 := (blk_cell HS2.out 13).trans (show _ = some (Value.string s.f6) from rfl)))
        go_upto_region 6 with (go_at_call 12; refine (hstep _ (Kd.C_below HC.out HB2.out)).mono ?_; rintro e_ w3 ⟨A3, c3, rfl, hR, hb_⟩; have HB3 := Aside0.mk (below_alloc (below_step HB2.out hb_) (.cells #[.int .i64 t.f0, .string t.f1.f0, .string t.f1.f1, .int .u8 t.f1.f2, .int .i64 t.f1.f3, .int .i64 t.f1.f4, .int .i64 t.f1.f5, .int .i64 t.f1.f6, .string t.f1.f7, .int .i64 t.f2, .int .i64 t.f3, .string t.f4, .string t.f5, .string t.f6] 25)); have HS3 := Aside0.mk (blk_alloc (blk_below HS2.out hb_) (.cells #[.int .i64 t.f0, .string t.f1.f0, .string t.f1.f1, .int .u8 t.f1.f2, .int .i64 t.f1.f3, .int .i64 t.f1.f4, .int .i64 t.f1.f5, .int .i64 t.f1.f6, .string t.f1.f7, .int .i64 t.f2, .int .i64 t.f3, .string t.f4, .string t.f5, .string t.f6] 25)); have HT3 := Aside0.mk (heap_alloc_new w3 (.cells #[.int .i64 t.f0, .string t.f1.f0, .string t.f1.f1, .int .u8 t.f1.f2, .int .i64 t.f1.f3, .int .i64 t.f1.f4, .int .i64 t.f1.f5, .int .i64 t.f1.f6, .string t.f1.f7, .int .i64 t.f2, .int .i64 t.f3, .string t.f4, .string t.f5, .string t.f6] 25)); clear hb_ hR)
        have z0_3 := (blk_cell HS3.out 0).trans (show _ = some (Value.int .i64 s.f0) from rfl)
        have z1_3 := (blk_cell HS3.out 1).trans (show _ = some (Value.string s.f1.f0) from rfl)
        have z2_3 := (blk_cell HS3.out 2).trans (show _ = some (Value.string s.f1.f1) from rfl)
        have z3_3 := (blk_cell HS3.out 3).trans (show _ = some (Value.int .u8 s.f1.f2) from rfl)
        have z4_3 := (blk_cell HS3.out 4).trans (show _ = some (Value.int .i64 s.f1.f3) from rfl)
        have z5_3 := (blk_cell HS3.out 5).trans (show _ = some (Value.int .i64 s.f1.f4) from rfl)
        have z6_3 := (blk_cell HS3.out 6).trans (show _ = some (Value.int .i64 s.f1.f5) from rfl)
        have z7_3 := (blk_cell HS3.out 7).trans (show _ = some (Value.int .i64 s.f1.f6) from rfl)
        have z8_3 := (blk_cell HS3.out 8).trans (show _ = some (Value.string s.f1.f7) from rfl)
        have z9_3 := (blk_cell HS3.out 9).trans (show _ = some (Value.int .i64 s.f2) from rfl)
        have z10_3 := (blk_cell HS3.out 10).trans (show _ = some (Value.int .i64 s.f3) from rfl)
        have z11_3 := (blk_cell HS3.out 11).trans (show _ = some (Value.string s.f4) from rfl)
        have z12_3 := (blk_cell HS3.out 12).trans (show _ = some (Value.string s.f5) from rfl)
        have z13_3 := (blk_cell HS3.out 13).trans (show _ = some (Value.string s.f6) from rfl)
        have u0_3 := (blk_cell HT3.out 0).trans (show _ = some (Value.int .i64 t.f0) from rfl)
        have u1_3 := (blk_cell HT3.out 1).trans (show _ = some (Value.string t.f1.f0) from rfl)
        have u2_3 := (blk_cell HT3.out 2).trans (show _ = some (Value.string t.f1.f1) from rfl)
        have u3_3 := (blk_cell HT3.out 3).trans (show _ = some (Value.int .u8 t.f1.f2) from rfl)
        have u4_3 := (blk_cell HT3.out 4).trans (show _ = some (Value.int .i64 t.f1.f3) from rfl)
        have u5_3 := (blk_cell HT3.out 5).trans (show _ = some (Value.int .i64 t.f1.f4) from rfl)
        have u6_3 := (blk_cell HT3.out 6).trans (show _ = some (Value.int .i64 t.f1.f5) from rfl)
        have u7_3 := (blk_cell HT3.out 7).trans (show _ = some (Value.int .i64 t.f1.f6) from rfl)
        have u8_3 := (blk_cell HT3.out 8).trans (show _ = some (Value.string t.f1.f7) from rfl)
        have u9_3 := (blk_cell HT3.out 9).trans (show _ = some (Value.int .i64 t.f2) from rfl)
        have u10_3 := (blk_cell HT3.out 10).trans (show _ = some (Value.int .i64 t.f3) from rfl)
        have u11_3 := (blk_cell HT3.out 11).trans (show _ = some (Value.string t.f4) from rfl)
        have u12_3 := (blk_cell HT3.out 12).trans (show _ = some (Value.string t.f5) from rfl)
        have u13_3 := (blk_cell HT3.out 13).trans (show _ = some (Value.string t.f6) from rfl)
        go_wp2_with (first | (have _t := HB3; go_at_call 13; (with_reducible refine (hms _).mono ?_); rintro e_ w4 ⟨rfl, hb_⟩; have HB4 := Aside0.mk (below_step HB3.out hb_); have HT4 := Aside0.mk (blk_below HT3.out hb_); clear hb_ HB3; have u0_4 := (blk_cell HT4.out 0).trans (show _ = some (Value.int .i64 t.f0) from rfl); have u1_4 := (blk_cell HT4.out 1).trans (show _ = some (Value.string t.f1.f0) from rfl); have u2_4 := (blk_cell HT4.out 2).trans (show _ = some (Value.string t.f1.f1) from rfl); have u3_4 := (blk_cell HT4.out 3).trans (show _ = some (Value.int .u8 t.f1.f2) from rfl); have u4_4 := (blk_cell HT4.out 4).trans (show _ = some (Value.int .i64 t.f1.f3) from rfl); have u5_4 := (blk_cell HT4.out 5).trans (show _ = some (Value.int .i64 t.f1.f4) from rfl); have u6_4 := (blk_cell HT4.out 6).trans (show _ = some (Value.int .i64 t.f1.f5) from rfl); have u7_4 := (blk_cell HT4.out 7).trans (show _ = some (Value.int .i64 t.f1.f6) from rfl); have u8_4 := (blk_cell HT4.out 8).trans (show _ = some (Value.string t.f1.f7) from rfl); have u9_4 := (blk_cell HT4.out 9).trans (show _ = some (Value.int .i64 t.f2) from rfl); have u10_4 := (blk_cell HT4.out 10).trans (show _ = some (Value.int .i64 t.f3) from rfl); have u11_4 := (blk_cell HT4.out 11).trans (show _ = some (Value.string t.f4) from rfl); have u12_4 := (blk_cell HT4.out 12).trans (show _ = some (Value.string t.f5) from rfl); have u13_4 := (blk_cell HT4.out 13).trans (show _ = some (Value.string t.f6) from rfl)) | (have _t := HB4; go_at_call 13; (with_reducible refine (hmt _).mono ?_); rintro e_ w5 ⟨rfl, hb_⟩; have HB5 := Aside0.mk (below_step HB4.out hb_); have HT5 := Aside0.mk (blk_below HT4.out hb_); clear hb_ HB4; have u0_5 := (blk_cell HT5.out 0).trans (show _ = some (Value.int .i64 t.f0) from rfl); have u1_5 := (blk_cell HT5.out 1).trans (show _ = some (Value.string t.f1.f0) from rfl); have u2_5 := (blk_cell HT5.out 2).trans (show _ = some (Value.string t.f1.f1) from rfl); have u3_5 := (blk_cell HT5.out 3).trans (show _ = some (Value.int .u8 t.f1.f2) from rfl); have u4_5 := (blk_cell HT5.out 4).trans (show _ = some (Value.int .i64 t.f1.f3) from rfl); have u5_5 := (blk_cell HT5.out 5).trans (show _ = some (Value.int .i64 t.f1.f4) from rfl); have u6_5 := (blk_cell HT5.out 6).trans (show _ = some (Value.int .i64 t.f1.f5) from rfl); have u7_5 := (blk_cell HT5.out 7).trans (show _ = some (Value.int .i64 t.f1.f6) from rfl); have u8_5 := (blk_cell HT5.out 8).trans (show _ = some (Value.string t.f1.f7) from rfl); have u9_5 := (blk_cell HT5.out 9).trans (show _ = some (Value.int .i64 t.f2) from rfl); have u10_5 := (blk_cell HT5.out 10).trans (show _ = some (Value.int .i64 t.f3) from rfl); have u11_5 := (blk_cell HT5.out 11).trans (show _ = some (Value.string t.f4) from rfl); have u12_5 := (blk_cell HT5.out 12).trans (show _ = some (Value.string t.f5) from rfl); have u13_5 := (blk_cell HT5.out 13).trans (show _ = some (Value.string t.f6) from rfl)))
        go_ret
        exact ⟨rfl, HB5.out⟩
      · obtain ⟨rfl, rfl⟩ := hno h0
        have b0 : (e0 != 0) = true := by simp only [bne, beq_eq_false_iff_ne.2 h0]; rfl
        have heq : ∀ (d : Nat) (W : World), (Op.equalIn (d + 3) 25 (.agg #[.int .i64 t.f0, .string t.f1.f0, .string t.f1.f1, .int .u8 t.f1.f2, .int .i64 t.f1.f3, .int .i64 t.f1.f4, .int .i64 t.f1.f5, .int .i64 t.f1.f6, .string t.f1.f7, .int .i64 t.f2, .int .i64 t.f3, .string t.f4, .string t.f5, .string t.f6]) (.agg #[.int .i64 t.f0, .string t.f1.f0, .string t.f1.f1, .int .u8 t.f1.f2, .int .i64 t.f1.f3, .int .i64 t.f1.f4, .int .i64 t.f1.f5, .int .i64 t.f1.f6, .string t.f1.f7, .int .i64 t.f2, .int .i64 t.f3, .string t.f4, .string t.f5, .string t.f6])).run Try.prog W = .ok true W := fun d W => (st_eq d W t t).trans (by rw [eqSt_self])
        clear hno hyes h0 hl2
        go_enter Try.func3, Try.ntmps3
        go_upto_region 5 with (first | (go_at_call 10; refine (hup _).mono ?_; rintro e_ w1 ⟨rfl, hb_⟩; have HB1 := Aside0.mk (below_step HB0.out hb_); have HS1 := Aside0.mk (blk_below HS0.out hb_); clear hb_; have z0_1 := (blk_cell HS1.out 0).trans (show _ = some (Value.int .i64 t.f0) from rfl); have z1_1 := (blk_cell HS1.out 1).trans (show _ = some (Value.string t.f1.f0) from rfl); have z2_1 := (blk_cell HS1.out 2).trans (show _ = some (Value.string t.f1.f1) from rfl); have z3_1 := (blk_cell HS1.out 3).trans (show _ = some (Value.int .u8 t.f1.f2) from rfl); have z4_1 := (blk_cell HS1.out 4).trans (show _ = some (Value.int .i64 t.f1.f3) from rfl); have z5_1 := (blk_cell HS1.out 5).trans (show _ = some (Value.int .i64 t.f1.f4) from rfl); have z6_1 := (blk_cell HS1.out 6).trans (show _ = some (Value.int .i64 t.f1.f5) from rfl); have z7_1 := (blk_cell HS1.out 7).trans (show _ = some (Value.int .i64 t.f1.f6) from rfl); have z8_1 := (blk_cell HS1.out 8).trans (show _ = some (Value.string t.f1.f7) from rfl); have z9_1 := (blk_cell HS1.out 9).trans (show _ = some (Value.int .i64 t.f2) from rfl); have z10_1 := (blk_cell HS1.out 10).trans (show _ = some (Value.int .i64 t.f3) from rfl); have z11_1 := (blk_cell HS1.out 11).trans (show _ = some (Value.string t.f4) from rfl); have z12_1 := (blk_cell HS1.out 12).trans (show _ = some (Value.string t.f5) from rfl); have z13_1 := (blk_cell HS1.out 13).trans (show _ = some (Value.string t.f6) from rfl)) | (go_at_call 11; refine (hfew _).mono ?_; rintro e_ w2 ⟨rfl, hb_⟩; have HB2 := Aside0.mk (below_step HB1.out hb_); have HS2 := Aside0.mk (blk_below HS1.out hb_); clear hb_ HB1 HS1 z0_1 z1_1 z2_1 z3_1 z4_1 z5_1 z6_1 z7_1 z8_1 z9_1 z10_1 z11_1 z12_1 z13_1; have z0_2 := (blk_cell HS2.out 0).trans (show _ = some (Value.int .i64 t.f0) from rfl); have z1_2 := (blk_cell HS2.out 1).trans (show _ = some (Value.string t.f1.f0) from rfl); have z2_2 := (blk_cell HS2.out 2).trans (show _ = some (Value.string t.f1.f1) from rfl); have z3_2 := (blk_cell HS2.out 3).trans (show _ = some (Value.int .u8 t.f1.f2) from rfl); have z4_2 := (blk_cell HS2.out 4).trans (show _ = some (Value.int .i64 t.f1.f3) from rfl); have z5_2 := (blk_cell HS2.out 5).trans (show _ = some (Value.int .i64 t.f1.f4) from rfl); have z6_2 := (blk_cell HS2.out 6).trans (show _ = some (Value.int .i64 t.f1.f5) from rfl); have z7_2 := (blk_cell HS2.out 7).trans (show _ = some (Value.int .i64 t.f1.f6) from rfl); have z8_2 := (blk_cell HS2.out 8).trans (show _ = some (Value.string t.f1.f7) from rfl); have z9_2 := (blk_cell HS2.out 9).trans (show _ = some (Value.int .i64 t.f2) from rfl); have z10_2 := (blk_cell HS2.out 10).trans (show _ = some (Value.int .i64 t.f3) from rfl); have z11_2 := (blk_cell HS2.out 11).trans (show _ = some (Value.string t.f4) from rfl); have z12_2 := (blk_cell HS2.out 12).trans (show _ = some (Value.string t.f5) from rfl); have z13_2 := (blk_cell HS2.out 13).trans (show _ = some (Value.string t.f6) from rfl)))
        go_upto_region 6 with (go_at_call 12; refine (hstep _ (Kd.C_below HC.out HB2.out)).mono ?_; rintro e_ w3 ⟨A3, c3, rfl, hR, hb_⟩; have HB3 := Aside0.mk (below_alloc (below_step HB2.out hb_) (.cells #[.int .i64 t.f0, .string t.f1.f0, .string t.f1.f1, .int .u8 t.f1.f2, .int .i64 t.f1.f3, .int .i64 t.f1.f4, .int .i64 t.f1.f5, .int .i64 t.f1.f6, .string t.f1.f7, .int .i64 t.f2, .int .i64 t.f3, .string t.f4, .string t.f5, .string t.f6] 25)); have HS3 := Aside0.mk (blk_alloc (blk_below HS2.out hb_) (.cells #[.int .i64 t.f0, .string t.f1.f0, .string t.f1.f1, .int .u8 t.f1.f2, .int .i64 t.f1.f3, .int .i64 t.f1.f4, .int .i64 t.f1.f5, .int .i64 t.f1.f6, .string t.f1.f7, .int .i64 t.f2, .int .i64 t.f3, .string t.f4, .string t.f5, .string t.f6] 25)); have HT3 := Aside0.mk (heap_alloc_new w3 (.cells #[.int .i64 t.f0, .string t.f1.f0, .string t.f1.f1, .int .u8 t.f1.f2, .int .i64 t.f1.f3, .int .i64 t.f1.f4, .int .i64 t.f1.f5, .int .i64 t.f1.f6, .string t.f1.f7, .int .i64 t.f2, .int .i64 t.f3, .string t.f4, .string t.f5, .string t.f6] 25)); clear hb_ hR)
        have z0_3 := (blk_cell HS3.out 0).trans (show _ = some (Value.int .i64 t.f0) from rfl)
        have z1_3 := (blk_cell HS3.out 1).trans (show _ = some (Value.string t.f1.f0) from rfl)
        have z2_3 := (blk_cell HS3.out 2).trans (show _ = some (Value.string t.f1.f1) from rfl)
        have z3_3 := (blk_cell HS3.out 3).trans (show _ = some (Value.int .u8 t.f1.f2) from rfl)
        have z4_3 := (blk_cell HS3.out 4).trans (show _ = some (Value.int .i64 t.f1.f3) from rfl)
        have z5_3 := (blk_cell HS3.out 5).trans (show _ = some (Value.int .i64 t.f1.f4) from rfl)
        have z6_3 := (blk_cell HS3.out 6).trans (show _ = some (Value.int .i64 t.f1.f5) from rfl)
        have z7_3 := (blk_cell HS3.out 7).trans (show _ = some (Value.int .i64 t.f1.f6) from rfl)
        have z8_3 := (blk_cell HS3.out 8).trans (show _ = some (Value.string t.f1.f7) from rfl)
        have z9_3 := (blk_cell HS3.out 9).trans (show _ = some (Value.int .i64 t.f2) from rfl)
        have z10_3 := (blk_cell HS3.out 10).trans (show _ = some (Value.int .i64 t.f3) from rfl)
        have z11_3 := (blk_cell HS3.out 11).trans (show _ = some (Value.string t.f4) from rfl)
        have z12_3 := (blk_cell HS3.out 12).trans (show _ = some (Value.string t.f5) from rfl)
        have z13_3 := (blk_cell HS3.out 13).trans (show _ = some (Value.string t.f6) from rfl)
        have u0_3 := (blk_cell HT3.out 0).trans (show _ = some (Value.int .i64 t.f0) from rfl)
        have u1_3 := (blk_cell HT3.out 1).trans (show _ = some (Value.string t.f1.f0) from rfl)
        have u2_3 := (blk_cell HT3.out 2).trans (show _ = some (Value.string t.f1.f1) from rfl)
        have u3_3 := (blk_cell HT3.out 3).trans (show _ = some (Value.int .u8 t.f1.f2) from rfl)
        have u4_3 := (blk_cell HT3.out 4).trans (show _ = some (Value.int .i64 t.f1.f3) from rfl)
        have u5_3 := (blk_cell HT3.out 5).trans (show _ = some (Value.int .i64 t.f1.f4) from rfl)
        have u6_3 := (blk_cell HT3.out 6).trans (show _ = some (Value.int .i64 t.f1.f5) from rfl)
        have u7_3 := (blk_cell HT3.out 7).trans (show _ = some (Value.int .i64 t.f1.f6) from rfl)
        have u8_3 := (blk_cell HT3.out 8).trans (show _ = some (Value.string t.f1.f7) from rfl)
        have u9_3 := (blk_cell HT3.out 9).trans (show _ = some (Value.int .i64 t.f2) from rfl)
        have u10_3 := (blk_cell HT3.out 10).trans (show _ = some (Value.int .i64 t.f3) from rfl)
        have u11_3 := (blk_cell HT3.out 11).trans (show _ = some (Value.string t.f4) from rfl)
        have u12_3 := (blk_cell HT3.out 12).trans (show _ = some (Value.string t.f5) from rfl)
        have u13_3 := (blk_cell HT3.out 13).trans (show _ = some (Value.string t.f6) from rfl)
        go_wp2_with (fail)
        go_ret
        exact ⟨rfl, HB3.out⟩
theorem reelkeeperlaw09_ParseStays.calls (k : Nat) (s : Pst) (A : Option Addr) (c : Nat) (l : List Int) (r : Bool) (w : World) (hC : Kd.C (Kd.int .u8) w A l.length l) (hc : l.length ≤ c) (hby : ∀ y ∈ l, 0 ≤ y ∧ y ≤ 255) (h : reelkeeperlaw09_ParseStays.f k s l = some r) :
    Calls Try.prog 3 #[.agg #[.int .i64 s.f0, .string s.f1.f0, .string s.f1.f1, .int .u8 s.f1.f2, .int .i64 s.f1.f3, .int .i64 s.f1.f4, .int .i64 s.f1.f5, .int .i64 s.f1.f6, .string s.f1.f7, .int .i64 s.f2, .int .i64 s.f3, .string s.f4, .string s.f5, .string s.f6], .slice A l.length c] w fun e w' => e = .returned (.bool r) ∧ Below w.heap.size w w' := by
  obtain rfl : true = r := Option.some.inj h
  exact parse_stays.at_ s A c l w hC hc hby

end Go.Proofs.Ytoahjigjlgcjkaa.X
