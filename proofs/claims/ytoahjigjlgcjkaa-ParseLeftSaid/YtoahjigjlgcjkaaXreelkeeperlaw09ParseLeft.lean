import Derived.Test.YtoahjigjlgcjkaaXK
import Derived.Test.YtoahjigjlgcjkaaXE23
import Derived.Test.YtoahjigjlgcjkaaXE25
import Derived.Test.YtoahjigjlgcjkaaXGnum
import Derived.Test.YtoahjigjlgcjkaaXGpa
import Derived.Test.YtoahjigjlgcjkaaXGpd
import Derived.Test.YtoahjigjlgcjkaaXGpg
import Derived.Test.YtoahjigjlgcjkaaXGpj
import Derived.Test.YtoahjigjlgcjkaaXGpk
import Derived.Test.YtoahjigjlgcjkaaXGpmay
import Derived.Test.YtoahjigjlgcjkaaYAll
import Derived.Test.YtoahjigjlgcjkaaP04g
import Derived.Test.YtoahjigjlgcjkaaPGA
import Derived.Test.YtoahjigjlgcjkaaPGE
import Derived.BigQuiet
import Derived.Deep.QuietTactic
import Derived.Deep.RegionHeld3
import Derived.Laws.EntriesVeiled
import Derived.WalkSpells
namespace Go.Proofs.Ytoahjigjlgcjkaa.X
open Go.RowKit Go.Proofs.YtoahjigjlgcjkaaW.PrintWords Go.Proofs.YtoahjigjlgcjkaaW.PrintLast Go.Proofs.YtoahjigjlgcjkaaW.PrintMore
attribute [local go_sem] max2_int min2_int max_two min_two
set_option linter.unusedVariables false
set_option linter.unusedSimpArgs false

attribute [local go_sem high] eqA23 eqA25
open Go.Proofs.YtoahjigjlgcjkaaY
set_option maxRecDepth 100000
def u78 (n : Nat) : Array Bool := ((List.range 79).map (fun j => decide (j < n))).toArray
theorem left_step {s : Pst} {x : List Int} (hm : mayS s = true) (h3 : s.f0 = 3) (hx : x.length = 512) : stepR s x = if s.f3 ≤ 512 then (zst 0, [⟨1, nd00, strOfNums (x.take s.f3.toNat)⟩, evOver], 0) else (⟨s.f0, s.f1, s.f2, s.f3 - 512, s.f4, s.f5, s.f6⟩, [⟨1, nd00, strOfNums (x.take 512)⟩], 0) := by
  unfold stepR stepP
  rw [hm, if_pos (by rw [hx]; rfl), if_neg (by omega), if_neg (by omega), if_neg (by omega), if_pos h3]
  unfold dataP
  split <;> rfl
def reelkeeperlaw09_ParseLeft.f (k : Nat) (s : Pst) (l : List Int) : Option Bool := some true
theorem ParseLeft_told (s : Pst) (l : List Int) : ∃ k, reelkeeperlaw09_ParseLeft.f k s l = some true := ⟨0, rfl⟩
set_option maxHeartbeats 3200000 in
theorem parse_left.at_ (s : Pst) (A : Option Addr) (c : Nat) (x : List Int) (w : World) (hC : Kd.C (Kd.int .u8) w A x.length x) (hc : x.length ≤ c) (hby : ∀ y ∈ x, 0 ≤ y ∧ y ≤ 255) :
    Calls Try.prog 5 #[.agg #[.int .i64 s.f0, .string s.f1.f0, .string s.f1.f1, .int .u8 s.f1.f2, .int .i64 s.f1.f3, .int .i64 s.f1.f4, .int .i64 s.f1.f5, .int .i64 s.f1.f6, .string s.f1.f7, .int .i64 s.f2, .int .i64 s.f3, .string s.f4, .string s.f5, .string s.f6], .slice A x.length c] w fun e w' => e = .returned (.bool true) ∧ Below w.heap.size w w' := by
  have HC := Aside0.mk hC
  have hup := fun W => awake9.at_ W
  have hfew := fun W => few9.at_ s W
  have HB0 := Aside0.mk (below_alloc (Below.refl w.heap.size w) (.cells #[.int .i64 s.f0, .string s.f1.f0, .string s.f1.f1, .int .u8 s.f1.f2, .int .i64 s.f1.f3, .int .i64 s.f1.f4, .int .i64 s.f1.f5, .int .i64 s.f1.f6, .string s.f1.f7, .int .i64 s.f2, .int .i64 s.f3, .string s.f4, .string s.f5, .string s.f6] 25))
  have HS0 := Aside0.mk (heap_alloc_new w (.cells #[.int .i64 s.f0, .string s.f1.f0, .string s.f1.f1, .int .u8 s.f1.f2, .int .i64 s.f1.f3, .int .i64 s.f1.f4, .int .i64 s.f1.f5, .int .i64 s.f1.f6, .string s.f1.f7, .int .i64 s.f2, .int .i64 s.f3, .string s.f4, .string s.f5, .string s.f6] 25))
  obtain ⟨z0_0, z1_0, z2_0, z3_0, z4_0, z5_0, z6_0, z7_0, z8_0, z9_0, z10_0, z11_0, z12_0, z13_0⟩ := cells14 HS0.out
  clear hC
  cases hf : fewS s with
  | false =>
    rw [hf] at hfew
    clear hf
    go_enter Try.func5, Try.ntmps5
    go_wp2_with (first | (go_at_call 10; refine (hup _).mono ?_; rintro e_ w1 ⟨rfl, hb_⟩; have HB1 := Aside0.mk (below_step HB0.out hb_); have HS1 := Aside0.mk (blk_below HS0.out hb_); clear hb_; obtain ⟨z0_1, z1_1, z2_1, z3_1, z4_1, z5_1, z6_1, z7_1, z8_1, z9_1, z10_1, z11_1, z12_1, z13_1⟩ := cells14 HS1.out) | (go_at_call 11; refine (hfew _).mono ?_; rintro e_ w2 ⟨rfl, hb_⟩; have HB2 := Aside0.mk (below_step HB1.out hb_); have HS2 := Aside0.mk (blk_below HS1.out hb_); clear hb_ HB1 HS1 z0_1 z1_1 z2_1 z3_1 z4_1 z5_1 z6_1 z7_1 z8_1 z9_1 z10_1 z11_1 z12_1 z13_1; obtain ⟨z0_2, z1_2, z2_2, z3_2, z4_2, z5_2, z6_2, z7_2, z8_2, z9_2, z10_2, z11_2, z12_2, z13_2⟩ := cells14 HS2.out))
    go_ret
    exact ⟨rfl, HB2.out⟩
  | true =>
  rw [hf] at hfew
  have hok := few_st hf
  clear hf
  have hms := fun W => parse_May.at_ s (Nat.le_trans hok.2.2.1 (by decide)) (Nat.le_trans hok.2.2.2 (by decide)) W
  by_cases h3 : s.f0 = 3
  case neg =>
    have b3 : (s.f0 != 3) = true := by simp only [bne, beq_eq_false_iff_ne.2 h3]; rfl
    clear h3
    go_enter Try.func5, Try.ntmps5
    go_wp2_with (first | (go_at_call 10; refine (hup _).mono ?_; rintro e_ w1 ⟨rfl, hb_⟩; have HB1 := Aside0.mk (below_step HB0.out hb_); have HS1 := Aside0.mk (blk_below HS0.out hb_); clear hb_; obtain ⟨z0_1, z1_1, z2_1, z3_1, z4_1, z5_1, z6_1, z7_1, z8_1, z9_1, z10_1, z11_1, z12_1, z13_1⟩ := cells14 HS1.out) | (go_at_call 11; refine (hfew _).mono ?_; rintro e_ w2 ⟨rfl, hb_⟩; have HB2 := Aside0.mk (below_step HB1.out hb_); have HS2 := Aside0.mk (blk_below HS1.out hb_); clear hb_ HB1 HS1 z0_1 z1_1 z2_1 z3_1 z4_1 z5_1 z6_1 z7_1 z8_1 z9_1 z10_1 z11_1 z12_1 z13_1; obtain ⟨z0_2, z1_2, z2_2, z3_2, z4_2, z5_2, z6_2, z7_2, z8_2, z9_2, z10_2, z11_2, z12_2, z13_2⟩ := cells14 HS2.out))
    go_ret
    exact ⟨rfl, HB2.out⟩
  have b3 : (s.f0 != 3) = false := by rw [h3]; rfl
  cases hm : mayS s with
  | false =>
    rw [hm] at hms
    clear hm h3
    go_enter Try.func5, Try.ntmps5
    go_wp2_with (first | (go_at_call 10; refine (hup _).mono ?_; rintro e_ w1 ⟨rfl, hb_⟩; have HB1 := Aside0.mk (below_step HB0.out hb_); have HS1 := Aside0.mk (blk_below HS0.out hb_); clear hb_; obtain ⟨z0_1, z1_1, z2_1, z3_1, z4_1, z5_1, z6_1, z7_1, z8_1, z9_1, z10_1, z11_1, z12_1, z13_1⟩ := cells14 HS1.out) | (go_at_call 11; refine (hfew _).mono ?_; rintro e_ w2 ⟨rfl, hb_⟩; have HB2 := Aside0.mk (below_step HB1.out hb_); have HS2 := Aside0.mk (blk_below HS1.out hb_); clear hb_ HB1 HS1 z0_1 z1_1 z2_1 z3_1 z4_1 z5_1 z6_1 z7_1 z8_1 z9_1 z10_1 z11_1 z12_1 z13_1; obtain ⟨z0_2, z1_2, z2_2, z3_2, z4_2, z5_2, z6_2, z7_2, z8_2, z9_2, z10_2, z11_2, z12_2, z13_2⟩ := cells14 HS2.out) | (go_at_call 13; (with_reducible refine (hms _).mono ?_); rintro e_ w3 ⟨rfl, hb_⟩; have HB3 := Aside0.mk (below_step HB2.out hb_); have HS3 := Aside0.mk (blk_below HS2.out hb_); clear hb_ HB2 HS2 z0_2 z1_2 z2_2 z3_2 z4_2 z5_2 z6_2 z7_2 z8_2 z9_2 z10_2 z11_2 z12_2 z13_2; obtain ⟨z0_3, z1_3, z2_3, z3_3, z4_3, z5_3, z6_3, z7_3, z8_3, z9_3, z10_3, z11_3, z12_3, z13_3⟩ := cells14 HS3.out))
    go_ret
    exact ⟨rfl, HB3.out⟩
  | true =>
  rw [hm] at hms
  by_cases hx : x.length = 512
  case neg =>
    have b5 : ((x.length : Int) != 512) = true := by simp only [bne, beq_eq_false_iff_ne.2 (show (x.length : Int) ≠ 512 by omega)]; rfl
    clear hm h3 hx
    go_enter Try.func5, Try.ntmps5
    go_wp2_with (first | (go_at_call 10; refine (hup _).mono ?_; rintro e_ w1 ⟨rfl, hb_⟩; have HB1 := Aside0.mk (below_step HB0.out hb_); have HS1 := Aside0.mk (blk_below HS0.out hb_); clear hb_; obtain ⟨z0_1, z1_1, z2_1, z3_1, z4_1, z5_1, z6_1, z7_1, z8_1, z9_1, z10_1, z11_1, z12_1, z13_1⟩ := cells14 HS1.out) | (go_at_call 11; refine (hfew _).mono ?_; rintro e_ w2 ⟨rfl, hb_⟩; have HB2 := Aside0.mk (below_step HB1.out hb_); have HS2 := Aside0.mk (blk_below HS1.out hb_); clear hb_ HB1 HS1 z0_1 z1_1 z2_1 z3_1 z4_1 z5_1 z6_1 z7_1 z8_1 z9_1 z10_1 z11_1 z12_1 z13_1; obtain ⟨z0_2, z1_2, z2_2, z3_2, z4_2, z5_2, z6_2, z7_2, z8_2, z9_2, z10_2, z11_2, z12_2, z13_2⟩ := cells14 HS2.out) | (go_at_call 13; (with_reducible refine (hms _).mono ?_); rintro e_ w3 ⟨rfl, hb_⟩; have HB3 := Aside0.mk (below_step HB2.out hb_); have HS3 := Aside0.mk (blk_below HS2.out hb_); clear hb_ HB2 HS2 z0_2 z1_2 z2_2 z3_2 z4_2 z5_2 z6_2 z7_2 z8_2 z9_2 z10_2 z11_2 z12_2 z13_2; obtain ⟨z0_3, z1_3, z2_3, z3_3, z4_3, z5_3, z6_3, z7_3, z8_3, z9_3, z10_3, z11_3, z12_3, z13_3⟩ := cells14 HS3.out))
    go_ret
    exact ⟨rfl, HB3.out⟩
  have b5 : ((x.length : Int) != 512) = false := by rw [hx]; rfl
  obtain ⟨-, -, -, -, h2, h4, -⟩ := (may_3i h3).1 hm
  have hstep := fun W hC => parse_Step.at_ s ⟨hok.1, hok.2.1, hok.2.2.1, hok.2.2.2⟩ A c x W hC hc hby
  rw [left_step hm h3 hx] at hstep
  obtain ⟨h2a, h2b⟩ := inB3_iff.1 h2
  obtain ⟨h4a, h4b⟩ := inB3_iff.1 h4
  unfold StepPost at hstep
  have HX := Aside0.mk hx
  by_cases h5 : s.f3 ≤ 512
  · rw [if_pos h5] at hstep
    obtain ⟨T, hT⟩ : ∃ T, strOfNums (x.take s.f3.toNat) = T := ⟨_, rfl⟩
    rw [hT] at hstep
    have hTs : (T.size : Int) = s.f3 := by rw [← hT, strOfNums_size, List.length_take]; omega
    have hTx : strOfNums (x.take T.size) = T := by rw [show T.size = s.f3.toNat by omega]; exact hT
    have t1 : ((T.size : Int) == s.f3) = true := beq_iff_eq.2 hTs
    have t2 : decide ((T.size : Int) ≤ 512) = true := decide_eq_true (by omega)
    have t3 : decide (T.size ≤ 512) = true := decide_eq_true (by omega)
    have t4 : decide ((T.size : Int) ≤ s.f3) = true := decide_eq_true (by omega)
    have HTZ := Aside0.mk (show T.size ≤ x.length by omega)
    have t5 : (0 : Int) ≤ (T.size : Int) := by omega
    have hstep : ∀ W, Kd.C (Kd.int .u8) W A x.length x → Calls Try.prog 12 #[.agg #[.int .i64 s.f0, .string s.f1.f0, .string s.f1.f1, .int .u8 s.f1.f2, .int .i64 s.f1.f3, .int .i64 s.f1.f4, .int .i64 s.f1.f5, .int .i64 s.f1.f6, .string s.f1.f7, .int .i64 s.f2, .int .i64 s.f3, .string s.f4, .string s.f5, .string s.f6], .slice A x.length c] W fun e w' => ∃ A4 c4, e = .returned (.tuple #[.agg #[.int .i64 0, .string ⟨#[]⟩, .string ⟨#[]⟩, .int .u8 0, .int .i64 0, .int .i64 0, .int .i64 0, .int .i64 0, .string ⟨#[]⟩, .int .i64 0, .int .i64 0, .string ⟨#[]⟩, .string ⟨#[]⟩, .string ⟨#[]⟩], .slice A4 2 c4, .int .i64 0]) ∧ Aside0 (Kd.R k39 39 w' W.heap.size (fun _ => True) (.slice A4 2 c4) [⟨1, nd00, T⟩, evOver]) ∧ Below W.heap.size W w' := hstep
    clear hm h3 h2 h4 h2a h2b h4a h4b h5 hT hTs hok hx
    have HTT := Aside0.mk (And.intro t1 (And.intro t2 (And.intro t3 (And.intro t4 t5))))
    clear t1 t2 t3 t4 t5
    go_enter Try.func5, Try.ntmps5
    go_upto_region 5 with (first | (go_at_call 10; refine (hup _).mono ?_; rintro e_ w1 ⟨rfl, hb_⟩; have HB1 := Aside0.mk (below_step HB0.out hb_); have HS1 := Aside0.mk (blk_below HS0.out hb_); clear hb_; obtain ⟨z0_1, z1_1, z2_1, z3_1, z4_1, z5_1, z6_1, z7_1, z8_1, z9_1, z10_1, z11_1, z12_1, z13_1⟩ := cells14 HS1.out) | (go_at_call 11; refine (hfew _).mono ?_; rintro e_ w2 ⟨rfl, hb_⟩; have HB2 := Aside0.mk (below_step HB1.out hb_); have HS2 := Aside0.mk (blk_below HS1.out hb_); clear hb_ HB1 HS1 z0_1 z1_1 z2_1 z3_1 z4_1 z5_1 z6_1 z7_1 z8_1 z9_1 z10_1 z11_1 z12_1 z13_1; obtain ⟨z0_2, z1_2, z2_2, z3_2, z4_2, z5_2, z6_2, z7_2, z8_2, z9_2, z10_2, z11_2, z12_2, z13_2⟩ := cells14 HS2.out) | (go_at_call 13; (with_reducible refine (hms _).mono ?_); rintro e_ w3 ⟨rfl, hb_⟩; have HB3 := Aside0.mk (below_step HB2.out hb_); have HS3 := Aside0.mk (blk_below HS2.out hb_); clear hb_ HB2 HS2 z0_2 z1_2 z2_2 z3_2 z4_2 z5_2 z6_2 z7_2 z8_2 z9_2 z10_2 z11_2 z12_2 z13_2; obtain ⟨z0_3, z1_3, z2_3, z3_3, z4_3, z5_3, z6_3, z7_3, z8_3, z9_3, z10_3, z11_3, z12_3, z13_3⟩ := cells14 HS3.out))
    go_upto_region 6 with (go_at_call 12; refine (hstep _ (Kd.C_below HC.out HB3.out)).mono ?_; rintro e_ w4 ⟨A4, c4, rfl, hR, hb_⟩; have HB4 := Aside0.mk (below_alloc (below_step HB3.out hb_) (.cells #[.int .i64 0, .string ⟨#[]⟩, .string ⟨#[]⟩, .int .u8 0, .int .i64 0, .int .i64 0, .int .i64 0, .int .i64 0, .string ⟨#[]⟩, .int .i64 0, .int .i64 0, .string ⟨#[]⟩, .string ⟨#[]⟩, .string ⟨#[]⟩] 25)); have HS4 := Aside0.mk (blk_alloc (blk_below HS3.out hb_) (.cells #[.int .i64 0, .string ⟨#[]⟩, .string ⟨#[]⟩, .int .u8 0, .int .i64 0, .int .i64 0, .int .i64 0, .int .i64 0, .string ⟨#[]⟩, .int .i64 0, .int .i64 0, .string ⟨#[]⟩, .string ⟨#[]⟩, .string ⟨#[]⟩] 25)); have HT4 := Aside0.mk (heap_alloc_new w4 (.cells #[.int .i64 0, .string ⟨#[]⟩, .string ⟨#[]⟩, .int .u8 0, .int .i64 0, .int .i64 0, .int .i64 0, .int .i64 0, .string ⟨#[]⟩, .int .i64 0, .int .i64 0, .string ⟨#[]⟩, .string ⟨#[]⟩, .string ⟨#[]⟩] 25)); have HR4 := Aside0.mk (Kd.R_alloc hR.out (.cells #[.int .i64 0, .string ⟨#[]⟩, .string ⟨#[]⟩, .int .u8 0, .int .i64 0, .int .i64 0, .int .i64 0, .int .i64 0, .string ⟨#[]⟩, .int .i64 0, .int .i64 0, .string ⟨#[]⟩, .string ⟨#[]⟩, .string ⟨#[]⟩] 25)); clear hb_ hR z0_3 z1_3 z2_3 z3_3 z4_3 z5_3 z6_3 z7_3 z8_3 z9_3 z10_3 z11_3 z12_3 z13_3)
    obtain ⟨z0_4, z1_4, z2_4, z3_4, z4_4, z5_4, z6_4, z7_4, z8_4, z9_4, z10_4, z11_4, z12_4, z13_4⟩ := cells14 HS4.out
    have u0 := (blk_cell HT4.out 0).trans (show _ = some (Value.int .i64 0) from rfl)
    have u1 := (blk_cell HT4.out 1).trans (show _ = some (Value.string ⟨#[]⟩) from rfl)
    have u2 := (blk_cell HT4.out 2).trans (show _ = some (Value.string ⟨#[]⟩) from rfl)
    have u3 := (blk_cell HT4.out 3).trans (show _ = some (Value.int .u8 0) from rfl)
    have u4 := (blk_cell HT4.out 4).trans (show _ = some (Value.int .i64 0) from rfl)
    have u5 := (blk_cell HT4.out 5).trans (show _ = some (Value.int .i64 0) from rfl)
    have u6 := (blk_cell HT4.out 6).trans (show _ = some (Value.int .i64 0) from rfl)
    have u7 := (blk_cell HT4.out 7).trans (show _ = some (Value.int .i64 0) from rfl)
    have u8 := (blk_cell HT4.out 8).trans (show _ = some (Value.string ⟨#[]⟩) from rfl)
    have u9 := (blk_cell HT4.out 9).trans (show _ = some (Value.int .i64 0) from rfl)
    have u10 := (blk_cell HT4.out 10).trans (show _ = some (Value.int .i64 0) from rfl)
    have u11 := (blk_cell HT4.out 11).trans (show _ = some (Value.string ⟨#[]⟩) from rfl)
    have u12 := (blk_cell HT4.out 12).trans (show _ = some (Value.string ⟨#[]⟩) from rfl)
    have u13 := (blk_cell HT4.out 13).trans (show _ = some (Value.string ⟨#[]⟩) from rfl)
    have hE := (Kd.R_reads' HR4.out).2.2
    obtain ⟨adE, rfl, e0, _, _, _, _, _, _, _, _, e9⟩ := at_T39 hE 0 (by decide) (by simp)
    have e0 : (w4.alloc (.cells #[.int .i64 0, .string ⟨#[]⟩, .string ⟨#[]⟩, .int .u8 0, .int .i64 0, .int .i64 0, .int .i64 0, .int .i64 0, .string ⟨#[]⟩, .int .i64 0, .int .i64 0, .string ⟨#[]⟩, .string ⟨#[]⟩, .string ⟨#[]⟩] 25)).cell? adE = some (.int .i64 1) := e0
    have e9 : (w4.alloc (.cells #[.int .i64 0, .string ⟨#[]⟩, .string ⟨#[]⟩, .int .u8 0, .int .i64 0, .int .i64 0, .int .i64 0, .int .i64 0, .string ⟨#[]⟩, .int .i64 0, .int .i64 0, .string ⟨#[]⟩, .string ⟨#[]⟩, .string ⟨#[]⟩] 25)).cell? ⟨adE.block, adE.off + 9, none⟩ = some (.string T) := e9
    obtain ⟨adF, ee_, g0, _, _, _, _, _, _, _, _, _⟩ := at_T39 hE 1 (by decide) (by simp)
    obtain rfl := Option.some.inj ee_
    clear ee_
    have g0 : (w4.alloc (.cells #[.int .i64 0, .string ⟨#[]⟩, .string ⟨#[]⟩, .int .u8 0, .int .i64 0, .int .i64 0, .int .i64 0, .int .i64 0, .string ⟨#[]⟩, .int .i64 0, .int .i64 0, .string ⟨#[]⟩, .string ⟨#[]⟩, .string ⟨#[]⟩] 25)).cell? ⟨adE.block, adE.off + 10, none⟩ = some (.int .i64 2) := g0
    clear hE
    obtain ⟨hs1, hs2⟩ := bytes_take c (Kd.C_below HC.out HB4.out) hc T.size HTZ.out
    have hcv0 := Kd.C_string (P := Try.prog) (A := A) (c := c) Try.underlying26 Try.underlying5 Try.underlying9 hs2
    rw [hTx] at hcv0
    have hcvd := Kd.C_string (P := Try.prog) (A := A) (c := c) Try.underlying26 Try.underlying5 Try.underlying9 (Kd.C_drew hs2)
    rw [hTx] at hcvd
    have hs1b := hs1
    rw [HX.out] at hs1b
    clear hs2 hTx b5 b3
    obtain ⟨t1, t2, t3, t4, t5⟩ := HTT.out
    go_wp2_with (fail)
    simp only [List.append_eq, List.cons_append, List.nil_append]
    refine start_ (n := 79) (S := fun w' => w'.cell? ⟨w.heap.size, 0, none⟩ = some (.int .i64 s.f0) ∧ w'.cell? ⟨w.heap.size, 1, none⟩ = some (.string s.f1.f0) ∧ w'.cell? ⟨w.heap.size, 2, none⟩ = some (.string s.f1.f1) ∧ w'.cell? ⟨w.heap.size, 3, none⟩ = some (.int .u8 s.f1.f2) ∧ w'.cell? ⟨w.heap.size, 4, none⟩ = some (.int .i64 s.f1.f3) ∧ w'.cell? ⟨w.heap.size, 5, none⟩ = some (.int .i64 s.f1.f4) ∧ w'.cell? ⟨w.heap.size, 6, none⟩ = some (.int .i64 s.f1.f5) ∧ w'.cell? ⟨w.heap.size, 7, none⟩ = some (.int .i64 s.f1.f6) ∧ w'.cell? ⟨w.heap.size, 8, none⟩ = some (.string s.f1.f7) ∧ w'.cell? ⟨w.heap.size, 9, none⟩ = some (.int .i64 s.f2) ∧ w'.cell? ⟨w.heap.size, 10, none⟩ = some (.int .i64 s.f3) ∧ w'.cell? ⟨w.heap.size, 11, none⟩ = some (.string s.f4) ∧ w'.cell? ⟨w.heap.size, 12, none⟩ = some (.string s.f5) ∧ w'.cell? ⟨w.heap.size, 13, none⟩ = some (.string s.f6) ∧ w'.cell? ⟨w4.heap.size, 0, none⟩ = some (.int .i64 0) ∧ w'.cell? ⟨w4.heap.size, 1, none⟩ = some (.string ⟨#[]⟩) ∧ w'.cell? ⟨w4.heap.size, 2, none⟩ = some (.string ⟨#[]⟩) ∧ w'.cell? ⟨w4.heap.size, 3, none⟩ = some (.int .u8 0) ∧ w'.cell? ⟨w4.heap.size, 4, none⟩ = some (.int .i64 0) ∧ w'.cell? ⟨w4.heap.size, 5, none⟩ = some (.int .i64 0) ∧ w'.cell? ⟨w4.heap.size, 6, none⟩ = some (.int .i64 0) ∧ w'.cell? ⟨w4.heap.size, 7, none⟩ = some (.int .i64 0) ∧ w'.cell? ⟨w4.heap.size, 8, none⟩ = some (.string ⟨#[]⟩) ∧ w'.cell? ⟨w4.heap.size, 9, none⟩ = some (.int .i64 0) ∧ w'.cell? ⟨w4.heap.size, 10, none⟩ = some (.int .i64 0) ∧ w'.cell? ⟨w4.heap.size, 11, none⟩ = some (.string ⟨#[]⟩) ∧ w'.cell? ⟨w4.heap.size, 12, none⟩ = some (.string ⟨#[]⟩) ∧ w'.cell? ⟨w4.heap.size, 13, none⟩ = some (.string ⟨#[]⟩) ∧ w'.cell? adE = some (.int .i64 1) ∧ w'.cell? ⟨adE.block, adE.off + 9, none⟩ = some (.string T) ∧ w'.cell? ⟨adE.block, adE.off + 10, none⟩ = some (.int .i64 2) ∧ (convert 26 9 (.slice A T.size c)).run Try.prog w' = .ok (.string T) w') (ds := []) (u78 0) (by as_aux_lemma => kernel_rfl) rfl rfl ⟨z0_4, z1_4, z2_4, z3_4, z4_4, z5_4, z6_4, z7_4, z8_4, z9_4, z10_4, z11_4, z12_4, z13_4, u0, u1, u2, u3, u4, u5, u6, u7, u8, u9, u10, u11, u12, u13, e0, e9, g0, hcvd⟩ (fun hHeld => ?_)
    refine pure_ (i := 0) (N := some 67) (v := ?_) (a' := ?_) (u78 1) rfl rfl (by as_aux_lemma => kernel_rfl) (fun _ _ _ h => h) (Or.inl ⟨by rfl, ?_⟩) ?_ ?_
    rotate_left
    · intro w'
      go_simp
      with_reducible rfl
    rotate_left
    · simp only [Act.put, List.setIfInBounds_toArray, List.set_cons_zero, List.set_cons_succ, i64_w, i32_w]
      rfl
    refine pure_ (i := 1) (N := some 68) (v := ?_) (a' := ?_) (u78 2) rfl rfl (by as_aux_lemma => kernel_rfl) (fun _ _ _ h => h) (Or.inl ⟨by rfl, ?_⟩) ?_ ?_
    rotate_left
    · intro w'
      go_simp
      with_reducible rfl
    rotate_left
    · simp only [Act.put, List.setIfInBounds_toArray, List.set_cons_zero, List.set_cons_succ, i64_w, i32_w]
      rfl
    refine pure_ (i := 2) (N := some 69) (v := ?_) (a' := ?_) (u78 3) rfl rfl (by as_aux_lemma => kernel_rfl) (fun _ _ _ h => h) (Or.inl ⟨by rfl, ?_⟩) ?_ ?_
    rotate_left
    · intro w'
      go_simp
      with_reducible rfl
    rotate_left
    · simp only [Act.put, List.setIfInBounds_toArray, List.set_cons_zero, List.set_cons_succ, i64_w, i32_w]
      rfl
    refine pure_ (i := 3) (N := some 70) (v := ?_) (a' := ?_) (u78 4) rfl rfl (by as_aux_lemma => kernel_rfl) (fun _ _ _ h => h) (Or.inl ⟨by rfl, ?_⟩) ?_ ?_
    rotate_left
    · intro w'
      go_simp
      with_reducible rfl
    rotate_left
    · simp only [Act.put, List.setIfInBounds_toArray, List.set_cons_zero, List.set_cons_succ, i64_w, i32_w]
      rfl
    refine pure_ (i := 4) (N := some 71) (v := ?_) (a' := ?_) (u78 5) rfl rfl (by as_aux_lemma => kernel_rfl) (fun _ _ _ h => h) (Or.inl ⟨by rfl, ?_⟩) ?_ ?_
    rotate_left
    · intro w'
      go_simp
      with_reducible rfl
    rotate_left
    · simp only [Act.put, List.setIfInBounds_toArray, List.set_cons_zero, List.set_cons_succ, i64_w, i32_w]
      rfl
    refine take_ (i := 5) (N := some 72) (v := ?_) (a' := ?_) (u78 6) rfl rfl (by as_aux_lemma => kernel_rfl) (fun _ _ _ h => h) (Or.inl ⟨by rfl, ?_⟩) hHeld ?_ ?_
    rotate_left
    · rintro w' ⟨s0, s1, s2, s3, s4, s5, s6, s7, s8, s9, s10, s11, s12, s13, s14, s15, s16, s17, s18, s19, s20, s21, s22, s23, s24, s25, s26, s27, s28, s29, s30, s31⟩
      go_simp
      with_reducible rfl
    rotate_left
    · simp only [Act.put, List.setIfInBounds_toArray, List.set_cons_zero, List.set_cons_succ, i64_w, i32_w]
      rfl
    refine pure_ (i := 6) (N := some 73) (v := ?_) (a' := ?_) (u78 7) rfl rfl (by as_aux_lemma => kernel_rfl) (fun _ _ _ h => h) (Or.inl ⟨by rfl, ?_⟩) ?_ ?_
    rotate_left
    · intro w'
      go_simp
      with_reducible rfl
    rotate_left
    · simp only [Act.put, List.setIfInBounds_toArray, List.set_cons_zero, List.set_cons_succ, i64_w, i32_w]
      rfl
    refine pure_ (i := 7) (N := some 74) (v := ?_) (a' := ?_) (u78 8) rfl rfl (by as_aux_lemma => kernel_rfl) (fun _ _ _ h => h) (Or.inl ⟨by rfl, ?_⟩) ?_ ?_
    rotate_left
    · intro w'
      go_simp
      with_reducible rfl
    rotate_left
    · simp only [Act.put, List.setIfInBounds_toArray, List.set_cons_zero, List.set_cons_succ, i64_w, i32_w]
      rfl
    refine pure_ (i := 8) (N := some 75) (v := ?_) (a' := ?_) (u78 9) rfl rfl (by as_aux_lemma => kernel_rfl) (fun _ _ _ h => h) (Or.inl ⟨by rfl, ?_⟩) ?_ ?_
    rotate_left
    · intro w'
      go_simp
      with_reducible rfl
    rotate_left
    · simp only [Act.put, List.setIfInBounds_toArray, List.set_cons_zero, List.set_cons_succ, i64_w, i32_w]
      rfl
    refine pure_ (i := 9) (N := some 76) (v := ?_) (a' := ?_) (u78 10) rfl rfl (by as_aux_lemma => kernel_rfl) (fun _ _ _ h => h) (Or.inl ⟨by rfl, ?_⟩) ?_ ?_
    rotate_left
    · intro w'
      go_simp
      with_reducible rfl
    rotate_left
    · simp only [Act.put, List.setIfInBounds_toArray, List.set_cons_zero, List.set_cons_succ, i64_w, i32_w]
      rfl
    refine pure_ (i := 10) (N := some 77) (v := ?_) (a' := ?_) (u78 11) rfl rfl (by as_aux_lemma => kernel_rfl) (fun _ _ _ h => h) (Or.inl ⟨by rfl, ?_⟩) ?_ ?_
    rotate_left
    · intro w'
      go_simp
      with_reducible rfl
    rotate_left
    · simp only [Act.put, List.setIfInBounds_toArray, List.set_cons_zero, List.set_cons_succ, i64_w, i32_w]
      rfl
    refine pure_ (i := 11) (N := some 78) (v := undef) (a' := ?_) (u78 12) rfl rfl (by as_aux_lemma => kernel_rfl) (fun _ _ _ h => h) (Or.inr ⟨by rfl, rfl⟩) ?_ ?_
    rotate_left
    · simp only [Act.put, List.setIfInBounds_toArray, List.set_cons_zero, List.set_cons_succ, i64_w, i32_w]
      rfl
    refine pure_ (i := 12) (N := some 79) (v := undef) (a' := ?_) (u78 13) rfl rfl (by as_aux_lemma => kernel_rfl) (fun _ _ _ h => h) (Or.inr ⟨by rfl, rfl⟩) ?_ ?_
    rotate_left
    · simp only [Act.put, List.setIfInBounds_toArray, List.set_cons_zero, List.set_cons_succ, i64_w, i32_w]
      rfl
    refine pure_ (i := 13) (N := some 80) (v := ?_) (a' := ?_) (u78 14) rfl rfl (by as_aux_lemma => kernel_rfl) (fun _ _ _ h => h) (Or.inl ⟨by rfl, ?_⟩) ?_ ?_
    rotate_left
    · intro w'
      go_simp
      with_reducible rfl
    rotate_left
    · simp only [Act.put, List.setIfInBounds_toArray, List.set_cons_zero, List.set_cons_succ, i64_w, i32_w]
      rfl
    refine pure_ (i := 14) (N := some 81) (v := ?_) (a' := ?_) (u78 15) rfl rfl (by as_aux_lemma => kernel_rfl) (fun _ _ _ h => h) (Or.inl ⟨by rfl, ?_⟩) ?_ ?_
    rotate_left
    · intro w'
      go_simp
      with_reducible rfl
    rotate_left
    · simp only [Act.put, List.setIfInBounds_toArray, List.set_cons_zero, List.set_cons_succ, i64_w, i32_w]
      rfl
    refine pure_ (i := 15) (N := some 82) (v := ?_) (a' := ?_) (u78 16) rfl rfl (by as_aux_lemma => kernel_rfl) (fun _ _ _ h => h) (Or.inl ⟨by rfl, ?_⟩) ?_ ?_
    rotate_left
    · intro w'
      go_simp
      with_reducible rfl
    rotate_left
    · simp only [Act.put, List.setIfInBounds_toArray, List.set_cons_zero, List.set_cons_succ, i64_w, i32_w]
      rfl
    refine pure_ (i := 16) (N := some 83) (v := ?_) (a' := ?_) (u78 17) rfl rfl (by as_aux_lemma => kernel_rfl) (fun _ _ _ h => h) (Or.inl ⟨by rfl, ?_⟩) ?_ ?_
    rotate_left
    · intro w'
      go_simp
      with_reducible rfl
    rotate_left
    · simp only [Act.put, List.setIfInBounds_toArray, List.set_cons_zero, List.set_cons_succ, i64_w, i32_w]
      rfl
    refine pure_ (i := 17) (N := some 84) (v := ?_) (a' := ?_) (u78 18) rfl rfl (by as_aux_lemma => kernel_rfl) (fun _ _ _ h => h) (Or.inl ⟨by rfl, ?_⟩) ?_ ?_
    rotate_left
    · intro w'
      go_simp
      with_reducible rfl
    rotate_left
    · simp only [Act.put, List.setIfInBounds_toArray, List.set_cons_zero, List.set_cons_succ, i64_w, i32_w]
      rfl
    refine pure_ (i := 18) (N := some 85) (v := ?_) (a' := ?_) (u78 19) rfl rfl (by as_aux_lemma => kernel_rfl) (fun _ _ _ h => h) (Or.inl ⟨by rfl, ?_⟩) ?_ ?_
    rotate_left
    · intro w'
      go_simp
      with_reducible rfl
    rotate_left
    · simp only [Act.put, List.setIfInBounds_toArray, List.set_cons_zero, List.set_cons_succ, i64_w, i32_w]
      rfl
    refine take_ (i := 19) (N := some 86) (v := ?_) (a' := ?_) (u78 20) rfl rfl (by as_aux_lemma => kernel_rfl) (fun _ _ _ h => h) (Or.inl ⟨by rfl, ?_⟩) hHeld ?_ ?_
    rotate_left
    · rintro w' ⟨s0, s1, s2, s3, s4, s5, s6, s7, s8, s9, s10, s11, s12, s13, s14, s15, s16, s17, s18, s19, s20, s21, s22, s23, s24, s25, s26, s27, s28, s29, s30, s31⟩
      go_simp
      with_reducible rfl
    rotate_left
    · simp only [Act.put, List.setIfInBounds_toArray, List.set_cons_zero, List.set_cons_succ, i64_w, i32_w]
      rfl
    refine pure_ (i := 20) (N := some 87) (v := ?_) (a' := ?_) (u78 21) rfl rfl (by as_aux_lemma => kernel_rfl) (fun _ _ _ h => h) (Or.inl ⟨by rfl, ?_⟩) ?_ ?_
    rotate_left
    · intro w'
      go_simp
      with_reducible rfl
    rotate_left
    · simp only [Act.put, List.setIfInBounds_toArray, List.set_cons_zero, List.set_cons_succ, i64_w, i32_w]
      rfl
    refine pure_ (i := 21) (N := some 88) (v := ?_) (a' := ?_) (u78 22) rfl rfl (by as_aux_lemma => kernel_rfl) (fun _ _ _ h => h) (Or.inl ⟨by rfl, ?_⟩) ?_ ?_
    rotate_left
    · intro w'
      go_simp
      with_reducible rfl
    rotate_left
    · simp only [Act.put, List.setIfInBounds_toArray, List.set_cons_zero, List.set_cons_succ, i64_w, i32_w]
      rfl
    refine pure_ (i := 22) (N := some 89) (v := ?_) (a' := ?_) (u78 23) rfl rfl (by as_aux_lemma => kernel_rfl) (fun _ _ _ h => h) (Or.inl ⟨by rfl, ?_⟩) ?_ ?_
    rotate_left
    · intro w'
      go_simp
      with_reducible rfl
    rotate_left
    · simp only [Act.put, List.setIfInBounds_toArray, List.set_cons_zero, List.set_cons_succ, i64_w, i32_w]
      rfl
    refine take_ (i := 23) (N := some 90) (v := ?_) (a' := ?_) (u78 24) rfl rfl (by as_aux_lemma => kernel_rfl) (fun _ _ _ h => h) (Or.inl ⟨by rfl, ?_⟩) hHeld ?_ ?_
    rotate_left
    · rintro w' ⟨s0, s1, s2, s3, s4, s5, s6, s7, s8, s9, s10, s11, s12, s13, s14, s15, s16, s17, s18, s19, s20, s21, s22, s23, s24, s25, s26, s27, s28, s29, s30, s31⟩
      go_simp
      with_reducible rfl
    rotate_left
    · simp only [Act.put, List.setIfInBounds_toArray, List.set_cons_zero, List.set_cons_succ, i64_w, i32_w]
      rfl
    refine pure_ (i := 24) (N := some 91) (v := ?_) (a' := ?_) (u78 25) rfl rfl (by as_aux_lemma => kernel_rfl) (fun _ _ _ h => h) (Or.inl ⟨by rfl, ?_⟩) ?_ ?_
    rotate_left
    · intro w'
      go_simp
      with_reducible rfl
    rotate_left
    · simp only [Act.put, List.setIfInBounds_toArray, List.set_cons_zero, List.set_cons_succ, i64_w, i32_w]
      rfl
    refine pure_ (i := 25) (N := some 92) (v := ?_) (a' := ?_) (u78 26) rfl rfl (by as_aux_lemma => kernel_rfl) (fun _ _ _ h => h) (Or.inl ⟨by rfl, ?_⟩) ?_ ?_
    rotate_left
    · intro w'
      go_simp
      with_reducible rfl
    rotate_left
    · simp only [Act.put, List.setIfInBounds_toArray, List.set_cons_zero, List.set_cons_succ, i64_w, i32_w]
      rfl
    refine pure_ (i := 26) (N := some 93) (v := ?_) (a' := ?_) (u78 27) rfl rfl (by as_aux_lemma => kernel_rfl) (fun _ _ _ h => h) (Or.inl ⟨by rfl, ?_⟩) ?_ ?_
    rotate_left
    · intro w'
      go_simp
      with_reducible rfl
    rotate_left
    · simp only [Act.put, List.setIfInBounds_toArray, List.set_cons_zero, List.set_cons_succ, i64_w, i32_w]
      rfl
    refine pure_ (i := 27) (N := some 94) (v := ?_) (a' := ?_) (u78 28) rfl rfl (by as_aux_lemma => kernel_rfl) (fun _ _ _ h => h) (Or.inl ⟨by rfl, ?_⟩) ?_ ?_
    rotate_left
    · intro w'
      go_simp
      with_reducible rfl
    rotate_left
    · simp only [Act.put, List.setIfInBounds_toArray, List.set_cons_zero, List.set_cons_succ, i64_w, i32_w]
      rfl
    refine pure_ (i := 28) (N := some 95) (v := ?_) (a' := ?_) (u78 29) rfl rfl (by as_aux_lemma => kernel_rfl) (fun _ _ _ h => h) (Or.inl ⟨by rfl, ?_⟩) ?_ ?_
    rotate_left
    · intro w'
      go_simp
      with_reducible rfl
    rotate_left
    · simp only [Act.put, List.setIfInBounds_toArray, List.set_cons_zero, List.set_cons_succ, i64_w, i32_w]
      rfl
    refine take_ (i := 29) (N := some 96) (v := ?_) (a' := ?_) (u78 30) rfl rfl (by as_aux_lemma => kernel_rfl) (fun _ _ _ h => h) (Or.inl ⟨by rfl, ?_⟩) hHeld ?_ ?_
    rotate_left
    · rintro w' ⟨s0, s1, s2, s3, s4, s5, s6, s7, s8, s9, s10, s11, s12, s13, s14, s15, s16, s17, s18, s19, s20, s21, s22, s23, s24, s25, s26, s27, s28, s29, s30, s31⟩
      go_simp
      with_reducible rfl
    rotate_left
    · simp only [Act.put, List.setIfInBounds_toArray, List.set_cons_zero, List.set_cons_succ, i64_w, i32_w]
      rfl
    refine pure_ (i := 30) (N := some 97) (v := ?_) (a' := ?_) (u78 31) rfl rfl (by as_aux_lemma => kernel_rfl) (fun _ _ _ h => h) (Or.inl ⟨by rfl, ?_⟩) ?_ ?_
    rotate_left
    · intro w'
      go_simp
      with_reducible rfl
    rotate_left
    · simp only [Act.put, List.setIfInBounds_toArray, List.set_cons_zero, List.set_cons_succ, i64_w, i32_w]
      rfl
    refine pure_ (i := 31) (N := some 98) (v := ?_) (a' := ?_) (u78 32) rfl rfl (by as_aux_lemma => kernel_rfl) (fun _ _ _ h => h) (Or.inl ⟨by rfl, ?_⟩) ?_ ?_
    rotate_left
    · intro w'
      go_simp
      with_reducible rfl
    rotate_left
    · simp only [Act.put, List.setIfInBounds_toArray, List.set_cons_zero, List.set_cons_succ, i64_w, i32_w]
      rfl
    refine pure_ (i := 32) (N := some 99) (v := ?_) (a' := ?_) (u78 33) rfl rfl (by as_aux_lemma => kernel_rfl) (fun _ _ _ h => h) (Or.inl ⟨by rfl, ?_⟩) ?_ ?_
    rotate_left
    · intro w'
      go_simp
      with_reducible rfl
    rotate_left
    · simp only [Act.put, List.setIfInBounds_toArray, List.set_cons_zero, List.set_cons_succ, i64_w, i32_w]
      rfl
    refine pure_ (i := 33) (N := some 100) (v := ?_) (a' := ?_) (u78 34) rfl rfl (by as_aux_lemma => kernel_rfl) (fun _ _ _ h => h) (Or.inl ⟨by rfl, ?_⟩) ?_ ?_
    rotate_left
    · intro w'
      go_simp
      with_reducible rfl
    rotate_left
    · simp only [Act.put, List.setIfInBounds_toArray, List.set_cons_zero, List.set_cons_succ, i64_w, i32_w]
      rfl
    refine pure_ (i := 34) (N := some 101) (v := ?_) (a' := ?_) (u78 35) rfl rfl (by as_aux_lemma => kernel_rfl) (fun _ _ _ h => h) (Or.inl ⟨by rfl, ?_⟩) ?_ ?_
    rotate_left
    · intro w'
      go_simp
      with_reducible rfl
    rotate_left
    · simp only [Act.put, List.setIfInBounds_toArray, List.set_cons_zero, List.set_cons_succ, i64_w, i32_w]
      rfl
    refine pure_ (i := 35) (N := some 102) (v := ?_) (a' := ?_) (u78 36) rfl rfl (by as_aux_lemma => kernel_rfl) (fun _ _ _ h => h) (Or.inl ⟨by rfl, ?_⟩) ?_ ?_
    rotate_left
    · intro w'
      go_simp
      with_reducible rfl
    rotate_left
    · simp only [Act.put, List.setIfInBounds_toArray, List.set_cons_zero, List.set_cons_succ, i64_w, i32_w]
      rfl
    refine pure_ (i := 36) (N := some 103) (v := ?_) (a' := ?_) (u78 37) rfl rfl (by as_aux_lemma => kernel_rfl) (fun _ _ _ h => h) (Or.inl ⟨by rfl, ?_⟩) ?_ ?_
    rotate_left
    · intro w'
      go_simp
      with_reducible rfl
    rotate_left
    · simp only [Act.put, List.setIfInBounds_toArray, List.set_cons_zero, List.set_cons_succ, i64_w, i32_w]
      rfl
    refine pure_ (i := 37) (N := some 104) (v := ?_) (a' := ?_) (u78 38) rfl rfl (by as_aux_lemma => kernel_rfl) (fun _ _ _ h => h) (Or.inl ⟨by rfl, ?_⟩) ?_ ?_
    rotate_left
    · intro w'
      go_simp
      with_reducible rfl
    rotate_left
    · simp only [Act.put, List.setIfInBounds_toArray, List.set_cons_zero, List.set_cons_succ, i64_w, i32_w]
      rfl
    refine pure_ (i := 38) (N := some 105) (v := ?_) (a' := ?_) (u78 39) rfl rfl (by as_aux_lemma => kernel_rfl) (fun _ _ _ h => h) (Or.inl ⟨by rfl, ?_⟩) ?_ ?_
    rotate_left
    · intro w'
      go_simp
      with_reducible rfl
    rotate_left
    · simp only [Act.put, List.setIfInBounds_toArray, List.set_cons_zero, List.set_cons_succ, i64_w, i32_w]
      rfl
    refine pure_ (i := 39) (N := some 106) (v := ?_) (a' := ?_) (u78 40) rfl rfl (by as_aux_lemma => kernel_rfl) (fun _ _ _ h => h) (Or.inl ⟨by rfl, ?_⟩) ?_ ?_
    rotate_left
    · intro w'
      go_simp
      with_reducible rfl
    rotate_left
    · simp only [Act.put, List.setIfInBounds_toArray, List.set_cons_zero, List.set_cons_succ, i64_w, i32_w]
      rfl
    refine pure_ (i := 40) (N := some 107) (v := ?_) (a' := ?_) (u78 41) rfl rfl (by as_aux_lemma => kernel_rfl) (fun _ _ _ h => h) (Or.inl ⟨by rfl, ?_⟩) ?_ ?_
    rotate_left
    · intro w'
      go_simp
      with_reducible rfl
    rotate_left
    · simp only [Act.put, List.setIfInBounds_toArray, List.set_cons_zero, List.set_cons_succ, i64_w, i32_w]
      rfl
    refine pure_ (i := 41) (N := some 108) (v := ?_) (a' := ?_) (u78 42) rfl rfl (by as_aux_lemma => kernel_rfl) (fun _ _ _ h => h) (Or.inl ⟨by rfl, ?_⟩) ?_ ?_
    rotate_left
    · intro w'
      go_simp
      with_reducible rfl
    rotate_left
    · simp only [Act.put, List.setIfInBounds_toArray, List.set_cons_zero, List.set_cons_succ, i64_w, i32_w]
      rfl
    refine take_ (i := 42) (N := some 109) (v := ?_) (a' := ?_) (u78 43) rfl rfl (by as_aux_lemma => kernel_rfl) (fun _ _ _ h => h) (Or.inl ⟨by rfl, ?_⟩) hHeld ?_ ?_
    rotate_left
    · rintro w' ⟨s0, s1, s2, s3, s4, s5, s6, s7, s8, s9, s10, s11, s12, s13, s14, s15, s16, s17, s18, s19, s20, s21, s22, s23, s24, s25, s26, s27, s28, s29, s30, s31⟩
      go_simp
      with_reducible rfl
    rotate_left
    · simp only [Act.put, List.setIfInBounds_toArray, List.set_cons_zero, List.set_cons_succ, i64_w, i32_w]
      rfl
    refine pure_ (i := 43) (N := some 110) (v := ?_) (a' := ?_) (u78 44) rfl rfl (by as_aux_lemma => kernel_rfl) (fun _ _ _ h => h) (Or.inl ⟨by rfl, ?_⟩) ?_ ?_
    rotate_left
    · intro w'
      go_simp
      with_reducible rfl
    rotate_left
    · simp only [Act.put, List.setIfInBounds_toArray, List.set_cons_zero, List.set_cons_succ, i64_w, i32_w]
      rfl
    refine pure_ (i := 44) (N := some 111) (v := ?_) (a' := ?_) (u78 45) rfl rfl (by as_aux_lemma => kernel_rfl) (fun _ _ _ h => h) (Or.inl ⟨by rfl, ?_⟩) ?_ ?_
    rotate_left
    · intro w'
      go_simp
      with_reducible rfl
    rotate_left
    · simp only [Act.put, List.setIfInBounds_toArray, List.set_cons_zero, List.set_cons_succ, i64_w, i32_w]
      rfl
    refine pure_ (i := 45) (N := some 112) (v := ?_) (a' := ?_) (u78 46) rfl rfl (by as_aux_lemma => kernel_rfl) (fun _ _ _ h => h) (Or.inl ⟨by rfl, ?_⟩) ?_ ?_
    rotate_left
    · intro w'
      go_simp
      with_reducible rfl
    rotate_left
    · simp only [Act.put, List.setIfInBounds_toArray, List.set_cons_zero, List.set_cons_succ, i64_w, i32_w]
      rfl
    refine pure_ (i := 46) (N := some 113) (v := undef) (a' := ?_) (u78 47) rfl rfl (by as_aux_lemma => kernel_rfl) (fun _ _ _ h => h) (Or.inr ⟨by rfl, rfl⟩) ?_ ?_
    rotate_left
    · simp only [Act.put, List.setIfInBounds_toArray, List.set_cons_zero, List.set_cons_succ, i64_w, i32_w]
      rfl
    refine pure_ (i := 47) (N := some 114) (v := undef) (a' := ?_) (u78 48) rfl rfl (by as_aux_lemma => kernel_rfl) (fun _ _ _ h => h) (Or.inr ⟨by rfl, rfl⟩) ?_ ?_
    rotate_left
    · simp only [Act.put, List.setIfInBounds_toArray, List.set_cons_zero, List.set_cons_succ, i64_w, i32_w]
      rfl
    refine pure_ (i := 48) (N := some 115) (v := undef) (a' := ?_) (u78 49) rfl rfl (by as_aux_lemma => kernel_rfl) (fun _ _ _ h => h) (Or.inr ⟨by rfl, rfl⟩) ?_ ?_
    rotate_left
    · simp only [Act.put, List.setIfInBounds_toArray, List.set_cons_zero, List.set_cons_succ, i64_w, i32_w]
      rfl
    refine pure_ (i := 49) (N := some 116) (v := undef) (a' := ?_) (u78 50) rfl rfl (by as_aux_lemma => kernel_rfl) (fun _ _ _ h => h) (Or.inr ⟨by rfl, rfl⟩) ?_ ?_
    rotate_left
    · simp only [Act.put, List.setIfInBounds_toArray, List.set_cons_zero, List.set_cons_succ, i64_w, i32_w]
      rfl
    refine pure_ (i := 50) (N := some 117) (v := undef) (a' := ?_) (u78 51) rfl rfl (by as_aux_lemma => kernel_rfl) (fun _ _ _ h => h) (Or.inr ⟨by rfl, rfl⟩) ?_ ?_
    rotate_left
    · simp only [Act.put, List.setIfInBounds_toArray, List.set_cons_zero, List.set_cons_succ, i64_w, i32_w]
      rfl
    refine pure_ (i := 51) (N := some 118) (v := undef) (a' := ?_) (u78 52) rfl rfl (by as_aux_lemma => kernel_rfl) (fun _ _ _ h => h) (Or.inr ⟨by rfl, rfl⟩) ?_ ?_
    rotate_left
    · simp only [Act.put, List.setIfInBounds_toArray, List.set_cons_zero, List.set_cons_succ, i64_w, i32_w]
      rfl
    refine pure_ (i := 52) (N := some 119) (v := undef) (a' := ?_) (u78 53) rfl rfl (by as_aux_lemma => kernel_rfl) (fun _ _ _ h => h) (Or.inr ⟨by rfl, rfl⟩) ?_ ?_
    rotate_left
    · simp only [Act.put, List.setIfInBounds_toArray, List.set_cons_zero, List.set_cons_succ, i64_w, i32_w]
      rfl
    refine pure_ (i := 53) (N := some 120) (v := undef) (a' := ?_) (u78 54) rfl rfl (by as_aux_lemma => kernel_rfl) (fun _ _ _ h => h) (Or.inr ⟨by rfl, rfl⟩) ?_ ?_
    rotate_left
    · simp only [Act.put, List.setIfInBounds_toArray, List.set_cons_zero, List.set_cons_succ, i64_w, i32_w]
      rfl
    refine pure_ (i := 54) (N := some 121) (v := undef) (a' := ?_) (u78 55) rfl rfl (by as_aux_lemma => kernel_rfl) (fun _ _ _ h => h) (Or.inr ⟨by rfl, rfl⟩) ?_ ?_
    rotate_left
    · simp only [Act.put, List.setIfInBounds_toArray, List.set_cons_zero, List.set_cons_succ, i64_w, i32_w]
      rfl
    refine pure_ (i := 55) (N := some 122) (v := undef) (a' := ?_) (u78 56) rfl rfl (by as_aux_lemma => kernel_rfl) (fun _ _ _ h => h) (Or.inr ⟨by rfl, rfl⟩) ?_ ?_
    rotate_left
    · simp only [Act.put, List.setIfInBounds_toArray, List.set_cons_zero, List.set_cons_succ, i64_w, i32_w]
      rfl
    refine pure_ (i := 56) (N := some 123) (v := undef) (a' := ?_) (u78 57) rfl rfl (by as_aux_lemma => kernel_rfl) (fun _ _ _ h => h) (Or.inr ⟨by rfl, rfl⟩) ?_ ?_
    rotate_left
    · simp only [Act.put, List.setIfInBounds_toArray, List.set_cons_zero, List.set_cons_succ, i64_w, i32_w]
      rfl
    refine pure_ (i := 57) (N := some 124) (v := undef) (a' := ?_) (u78 58) rfl rfl (by as_aux_lemma => kernel_rfl) (fun _ _ _ h => h) (Or.inr ⟨by rfl, rfl⟩) ?_ ?_
    rotate_left
    · simp only [Act.put, List.setIfInBounds_toArray, List.set_cons_zero, List.set_cons_succ, i64_w, i32_w]
      rfl
    refine pure_ (i := 58) (N := some 125) (v := undef) (a' := ?_) (u78 59) rfl rfl (by as_aux_lemma => kernel_rfl) (fun _ _ _ h => h) (Or.inr ⟨by rfl, rfl⟩) ?_ ?_
    rotate_left
    · simp only [Act.put, List.setIfInBounds_toArray, List.set_cons_zero, List.set_cons_succ, i64_w, i32_w]
      rfl
    refine pure_ (i := 59) (N := some 126) (v := undef) (a' := ?_) (u78 60) rfl rfl (by as_aux_lemma => kernel_rfl) (fun _ _ _ h => h) (Or.inr ⟨by rfl, rfl⟩) ?_ ?_
    rotate_left
    · simp only [Act.put, List.setIfInBounds_toArray, List.set_cons_zero, List.set_cons_succ, i64_w, i32_w]
      rfl
    refine pure_ (i := 60) (N := some 127) (v := undef) (a' := ?_) (u78 61) rfl rfl (by as_aux_lemma => kernel_rfl) (fun _ _ _ h => h) (Or.inr ⟨by rfl, rfl⟩) ?_ ?_
    rotate_left
    · simp only [Act.put, List.setIfInBounds_toArray, List.set_cons_zero, List.set_cons_succ, i64_w, i32_w]
      rfl
    refine pure_ (i := 61) (N := some 128) (v := undef) (a' := ?_) (u78 62) rfl rfl (by as_aux_lemma => kernel_rfl) (fun _ _ _ h => h) (Or.inr ⟨by rfl, rfl⟩) ?_ ?_
    rotate_left
    · simp only [Act.put, List.setIfInBounds_toArray, List.set_cons_zero, List.set_cons_succ, i64_w, i32_w]
      rfl
    refine pure_ (i := 62) (N := some 129) (v := undef) (a' := ?_) (u78 63) rfl rfl (by as_aux_lemma => kernel_rfl) (fun _ _ _ h => h) (Or.inr ⟨by rfl, rfl⟩) ?_ ?_
    rotate_left
    · simp only [Act.put, List.setIfInBounds_toArray, List.set_cons_zero, List.set_cons_succ, i64_w, i32_w]
      rfl
    refine pure_ (i := 63) (N := some 130) (v := undef) (a' := ?_) (u78 64) rfl rfl (by as_aux_lemma => kernel_rfl) (fun _ _ _ h => h) (Or.inr ⟨by rfl, rfl⟩) ?_ ?_
    rotate_left
    · simp only [Act.put, List.setIfInBounds_toArray, List.set_cons_zero, List.set_cons_succ, i64_w, i32_w]
      rfl
    refine pure_ (i := 64) (N := some 131) (v := undef) (a' := ?_) (u78 65) rfl rfl (by as_aux_lemma => kernel_rfl) (fun _ _ _ h => h) (Or.inr ⟨by rfl, rfl⟩) ?_ ?_
    rotate_left
    · simp only [Act.put, List.setIfInBounds_toArray, List.set_cons_zero, List.set_cons_succ, i64_w, i32_w]
      rfl
    refine pure_ (i := 65) (N := some 132) (v := undef) (a' := ?_) (u78 66) rfl rfl (by as_aux_lemma => kernel_rfl) (fun _ _ _ h => h) (Or.inr ⟨by rfl, rfl⟩) ?_ ?_
    rotate_left
    · simp only [Act.put, List.setIfInBounds_toArray, List.set_cons_zero, List.set_cons_succ, i64_w, i32_w]
      rfl
    refine pure_ (i := 66) (N := some 133) (v := undef) (a' := ?_) (u78 67) rfl rfl (by as_aux_lemma => kernel_rfl) (fun _ _ _ h => h) (Or.inr ⟨by rfl, rfl⟩) ?_ ?_
    rotate_left
    · simp only [Act.put, List.setIfInBounds_toArray, List.set_cons_zero, List.set_cons_succ, i64_w, i32_w]
      rfl
    refine pure_ (i := 67) (N := some 134) (v := undef) (a' := ?_) (u78 68) rfl rfl (by as_aux_lemma => kernel_rfl) (fun _ _ _ h => h) (Or.inr ⟨by rfl, rfl⟩) ?_ ?_
    rotate_left
    · simp only [Act.put, List.setIfInBounds_toArray, List.set_cons_zero, List.set_cons_succ, i64_w, i32_w]
      rfl
    refine pure_ (i := 68) (N := some 135) (v := undef) (a' := ?_) (u78 69) rfl rfl (by as_aux_lemma => kernel_rfl) (fun _ _ _ h => h) (Or.inr ⟨by rfl, rfl⟩) ?_ ?_
    rotate_left
    · simp only [Act.put, List.setIfInBounds_toArray, List.set_cons_zero, List.set_cons_succ, i64_w, i32_w]
      rfl
    refine pure_ (i := 69) (N := some 136) (v := undef) (a' := ?_) (u78 70) rfl rfl (by as_aux_lemma => kernel_rfl) (fun _ _ _ h => h) (Or.inr ⟨by rfl, rfl⟩) ?_ ?_
    rotate_left
    · simp only [Act.put, List.setIfInBounds_toArray, List.set_cons_zero, List.set_cons_succ, i64_w, i32_w]
      rfl
    refine pure_ (i := 70) (N := some 137) (v := undef) (a' := ?_) (u78 71) rfl rfl (by as_aux_lemma => kernel_rfl) (fun _ _ _ h => h) (Or.inr ⟨by rfl, rfl⟩) ?_ ?_
    rotate_left
    · simp only [Act.put, List.setIfInBounds_toArray, List.set_cons_zero, List.set_cons_succ, i64_w, i32_w]
      rfl
    refine pure_ (i := 71) (N := some 138) (v := undef) (a' := ?_) (u78 72) rfl rfl (by as_aux_lemma => kernel_rfl) (fun _ _ _ h => h) (Or.inr ⟨by rfl, rfl⟩) ?_ ?_
    rotate_left
    · simp only [Act.put, List.setIfInBounds_toArray, List.set_cons_zero, List.set_cons_succ, i64_w, i32_w]
      rfl
    refine pure_ (i := 72) (N := some 139) (v := undef) (a' := ?_) (u78 73) rfl rfl (by as_aux_lemma => kernel_rfl) (fun _ _ _ h => h) (Or.inr ⟨by rfl, rfl⟩) ?_ ?_
    rotate_left
    · simp only [Act.put, List.setIfInBounds_toArray, List.set_cons_zero, List.set_cons_succ, i64_w, i32_w]
      rfl
    refine pure_ (i := 73) (N := some 140) (v := undef) (a' := ?_) (u78 74) rfl rfl (by as_aux_lemma => kernel_rfl) (fun _ _ _ h => h) (Or.inr ⟨by rfl, rfl⟩) ?_ ?_
    rotate_left
    · simp only [Act.put, List.setIfInBounds_toArray, List.set_cons_zero, List.set_cons_succ, i64_w, i32_w]
      rfl
    refine pure_ (i := 74) (N := some 141) (v := undef) (a' := ?_) (u78 75) rfl rfl (by as_aux_lemma => kernel_rfl) (fun _ _ _ h => h) (Or.inr ⟨by rfl, rfl⟩) ?_ ?_
    rotate_left
    · simp only [Act.put, List.setIfInBounds_toArray, List.set_cons_zero, List.set_cons_succ, i64_w, i32_w]
      rfl
    refine pure_ (i := 75) (N := some 142) (v := undef) (a' := ?_) (u78 76) rfl rfl (by as_aux_lemma => kernel_rfl) (fun _ _ _ h => h) (Or.inr ⟨by rfl, rfl⟩) ?_ ?_
    rotate_left
    · simp only [Act.put, List.setIfInBounds_toArray, List.set_cons_zero, List.set_cons_succ, i64_w, i32_w]
      rfl
    refine pure_ (i := 76) (N := some 143) (v := ?_) (a' := ?_) (u78 77) rfl rfl (by as_aux_lemma => kernel_rfl) (fun _ _ _ h => h) (Or.inl ⟨by rfl, ?_⟩) ?_ ?_
    rotate_left
    · intro w'
      go_simp
      with_reducible rfl
    rotate_left
    · simp only [Act.put, List.setIfInBounds_toArray, List.set_cons_zero, List.set_cons_succ, i64_w, i32_w]
      rfl
    refine pure_ (i := 77) (N := some 144) (v := ?_) (a' := ?_) (u78 78) rfl rfl (by as_aux_lemma => kernel_rfl) (fun _ _ _ h => h) (Or.inl ⟨by rfl, ?_⟩) ?_ ?_
    rotate_left
    · intro w'
      go_simp
      with_reducible rfl
    rotate_left
    · simp only [Act.put, List.setIfInBounds_toArray, List.set_cons_zero, List.set_cons_succ, i64_w, i32_w]
      rfl
    refine pure_ (i := 78) (N := some 4) (v := ?_) (a' := ?_) (u78 79) rfl rfl (by as_aux_lemma => kernel_rfl) (fun _ _ _ h => h) (Or.inl ⟨by rfl, ?_⟩) ?_ ?_
    rotate_left
    · intro w'
      go_simp
      with_reducible rfl
    rotate_left
    · simp only [Act.put, List.setIfInBounds_toArray, List.set_cons_zero, List.set_cons_succ, i64_w, i32_w]
      rfl
    refine done_ (by as_aux_lemma => kernel_rfl) ?_
    go_wp2_with (fail)
    go_ret
    exact ⟨rfl, below_drew HB4.out⟩
  · rw [if_neg h5] at hstep
    obtain ⟨T, hT⟩ : ∃ T, strOfNums (x.take 512) = T := ⟨_, rfl⟩
    rw [hT] at hstep
    have hTs : T.size = 512 := by rw [← hT, strOfNums_size, List.length_take]; omega
    obtain ⟨q, hq⟩ : ∃ q, s.f3 - 512 = q := ⟨_, rfl⟩
    rw [hq] at hstep
    have hTx : strOfNums (x.take T.size) = T := by rw [hTs]; exact hT
    have t1 : ((T.size : Int) == s.f3) = false := beq_eq_false_iff_ne.2 (by omega)
    have t2 : decide ((T.size : Int) ≤ 512) = true := decide_eq_true (by omega)
    have t3 : decide (T.size ≤ 512) = true := decide_eq_true (by omega)
    have t4 : decide ((T.size : Int) ≤ s.f3) = true := decide_eq_true (by omega)
    have t6 : ((T.size : Int) == 512) = true := beq_iff_eq.2 (by omega)
    have t7 : (T.size == 512) = true := beq_iff_eq.2 hTs
    have t8 : IntKind.i64.wrap (s.f3 - (T.size : Int)) = q := by rw [i64_w, wrap_id (by omega) (by omega)]; omega
    have HTZ := Aside0.mk (show T.size ≤ x.length by omega)
    have t5 : (0 : Int) ≤ (T.size : Int) := by omega
    have hstep : ∀ W, Kd.C (Kd.int .u8) W A x.length x → Calls Try.prog 12 #[.agg #[.int .i64 s.f0, .string s.f1.f0, .string s.f1.f1, .int .u8 s.f1.f2, .int .i64 s.f1.f3, .int .i64 s.f1.f4, .int .i64 s.f1.f5, .int .i64 s.f1.f6, .string s.f1.f7, .int .i64 s.f2, .int .i64 s.f3, .string s.f4, .string s.f5, .string s.f6], .slice A x.length c] W fun e w' => ∃ A4 c4, e = .returned (.tuple #[.agg #[.int .i64 s.f0, .string s.f1.f0, .string s.f1.f1, .int .u8 s.f1.f2, .int .i64 s.f1.f3, .int .i64 s.f1.f4, .int .i64 s.f1.f5, .int .i64 s.f1.f6, .string s.f1.f7, .int .i64 s.f2, .int .i64 q, .string s.f4, .string s.f5, .string s.f6], .slice A4 1 c4, .int .i64 0]) ∧ Aside0 (Kd.R k39 39 w' W.heap.size (fun _ => True) (.slice A4 1 c4) [⟨1, nd00, T⟩]) ∧ Below W.heap.size W w' := hstep
    clear hm h3 h2 h4 h2a h2b h4a h4b h5 hT hTs hok hx hq
    have HTT := Aside0.mk (And.intro t1 (And.intro t2 (And.intro t3 (And.intro t4 (And.intro t5 (And.intro t6 (And.intro t7 t8)))))))
    clear t1 t2 t3 t4 t5 t6 t7 t8
    go_enter Try.func5, Try.ntmps5
    go_upto_region 5 with (first | (go_at_call 10; refine (hup _).mono ?_; rintro e_ w1 ⟨rfl, hb_⟩; have HB1 := Aside0.mk (below_step HB0.out hb_); have HS1 := Aside0.mk (blk_below HS0.out hb_); clear hb_; obtain ⟨z0_1, z1_1, z2_1, z3_1, z4_1, z5_1, z6_1, z7_1, z8_1, z9_1, z10_1, z11_1, z12_1, z13_1⟩ := cells14 HS1.out) | (go_at_call 11; refine (hfew _).mono ?_; rintro e_ w2 ⟨rfl, hb_⟩; have HB2 := Aside0.mk (below_step HB1.out hb_); have HS2 := Aside0.mk (blk_below HS1.out hb_); clear hb_ HB1 HS1 z0_1 z1_1 z2_1 z3_1 z4_1 z5_1 z6_1 z7_1 z8_1 z9_1 z10_1 z11_1 z12_1 z13_1; obtain ⟨z0_2, z1_2, z2_2, z3_2, z4_2, z5_2, z6_2, z7_2, z8_2, z9_2, z10_2, z11_2, z12_2, z13_2⟩ := cells14 HS2.out) | (go_at_call 13; (with_reducible refine (hms _).mono ?_); rintro e_ w3 ⟨rfl, hb_⟩; have HB3 := Aside0.mk (below_step HB2.out hb_); have HS3 := Aside0.mk (blk_below HS2.out hb_); clear hb_ HB2 HS2 z0_2 z1_2 z2_2 z3_2 z4_2 z5_2 z6_2 z7_2 z8_2 z9_2 z10_2 z11_2 z12_2 z13_2; obtain ⟨z0_3, z1_3, z2_3, z3_3, z4_3, z5_3, z6_3, z7_3, z8_3, z9_3, z10_3, z11_3, z12_3, z13_3⟩ := cells14 HS3.out))
    go_upto_region 6 with (go_at_call 12; refine (hstep _ (Kd.C_below HC.out HB3.out)).mono ?_; rintro e_ w4 ⟨A4, c4, rfl, hR, hb_⟩; have HB4 := Aside0.mk (below_alloc (below_step HB3.out hb_) (.cells #[.int .i64 s.f0, .string s.f1.f0, .string s.f1.f1, .int .u8 s.f1.f2, .int .i64 s.f1.f3, .int .i64 s.f1.f4, .int .i64 s.f1.f5, .int .i64 s.f1.f6, .string s.f1.f7, .int .i64 s.f2, .int .i64 q, .string s.f4, .string s.f5, .string s.f6] 25)); have HS4 := Aside0.mk (blk_alloc (blk_below HS3.out hb_) (.cells #[.int .i64 s.f0, .string s.f1.f0, .string s.f1.f1, .int .u8 s.f1.f2, .int .i64 s.f1.f3, .int .i64 s.f1.f4, .int .i64 s.f1.f5, .int .i64 s.f1.f6, .string s.f1.f7, .int .i64 s.f2, .int .i64 q, .string s.f4, .string s.f5, .string s.f6] 25)); have HT4 := Aside0.mk (heap_alloc_new w4 (.cells #[.int .i64 s.f0, .string s.f1.f0, .string s.f1.f1, .int .u8 s.f1.f2, .int .i64 s.f1.f3, .int .i64 s.f1.f4, .int .i64 s.f1.f5, .int .i64 s.f1.f6, .string s.f1.f7, .int .i64 s.f2, .int .i64 q, .string s.f4, .string s.f5, .string s.f6] 25)); have HR4 := Aside0.mk (Kd.R_alloc hR.out (.cells #[.int .i64 s.f0, .string s.f1.f0, .string s.f1.f1, .int .u8 s.f1.f2, .int .i64 s.f1.f3, .int .i64 s.f1.f4, .int .i64 s.f1.f5, .int .i64 s.f1.f6, .string s.f1.f7, .int .i64 s.f2, .int .i64 q, .string s.f4, .string s.f5, .string s.f6] 25)); clear hb_ hR z0_3 z1_3 z2_3 z3_3 z4_3 z5_3 z6_3 z7_3 z8_3 z9_3 z10_3 z11_3 z12_3 z13_3)
    obtain ⟨z0_4, z1_4, z2_4, z3_4, z4_4, z5_4, z6_4, z7_4, z8_4, z9_4, z10_4, z11_4, z12_4, z13_4⟩ := cells14 HS4.out
    have u0 := (blk_cell HT4.out 0).trans (show _ = some (Value.int .i64 s.f0) from rfl)
    have u1 := (blk_cell HT4.out 1).trans (show _ = some (Value.string s.f1.f0) from rfl)
    have u2 := (blk_cell HT4.out 2).trans (show _ = some (Value.string s.f1.f1) from rfl)
    have u3 := (blk_cell HT4.out 3).trans (show _ = some (Value.int .u8 s.f1.f2) from rfl)
    have u4 := (blk_cell HT4.out 4).trans (show _ = some (Value.int .i64 s.f1.f3) from rfl)
    have u5 := (blk_cell HT4.out 5).trans (show _ = some (Value.int .i64 s.f1.f4) from rfl)
    have u6 := (blk_cell HT4.out 6).trans (show _ = some (Value.int .i64 s.f1.f5) from rfl)
    have u7 := (blk_cell HT4.out 7).trans (show _ = some (Value.int .i64 s.f1.f6) from rfl)
    have u8 := (blk_cell HT4.out 8).trans (show _ = some (Value.string s.f1.f7) from rfl)
    have u9 := (blk_cell HT4.out 9).trans (show _ = some (Value.int .i64 s.f2) from rfl)
    have u10 := (blk_cell HT4.out 10).trans (show _ = some (Value.int .i64 q) from rfl)
    have u11 := (blk_cell HT4.out 11).trans (show _ = some (Value.string s.f4) from rfl)
    have u12 := (blk_cell HT4.out 12).trans (show _ = some (Value.string s.f5) from rfl)
    have u13 := (blk_cell HT4.out 13).trans (show _ = some (Value.string s.f6) from rfl)
    have hE := (Kd.R_reads' HR4.out).2.2
    obtain ⟨adE, rfl, e0, _, _, _, _, _, _, _, _, e9⟩ := at_T39 hE 0 (by decide) (by simp)
    have e0 : (w4.alloc (.cells #[.int .i64 s.f0, .string s.f1.f0, .string s.f1.f1, .int .u8 s.f1.f2, .int .i64 s.f1.f3, .int .i64 s.f1.f4, .int .i64 s.f1.f5, .int .i64 s.f1.f6, .string s.f1.f7, .int .i64 s.f2, .int .i64 q, .string s.f4, .string s.f5, .string s.f6] 25)).cell? adE = some (.int .i64 1) := e0
    have e9 : (w4.alloc (.cells #[.int .i64 s.f0, .string s.f1.f0, .string s.f1.f1, .int .u8 s.f1.f2, .int .i64 s.f1.f3, .int .i64 s.f1.f4, .int .i64 s.f1.f5, .int .i64 s.f1.f6, .string s.f1.f7, .int .i64 s.f2, .int .i64 q, .string s.f4, .string s.f5, .string s.f6] 25)).cell? ⟨adE.block, adE.off + 9, none⟩ = some (.string T) := e9
    clear hE
    obtain ⟨hs1, hs2⟩ := bytes_take c (Kd.C_below HC.out HB4.out) hc T.size HTZ.out
    have hcv0 := Kd.C_string (P := Try.prog) (A := A) (c := c) Try.underlying26 Try.underlying5 Try.underlying9 hs2
    rw [hTx] at hcv0
    have hcvd := Kd.C_string (P := Try.prog) (A := A) (c := c) Try.underlying26 Try.underlying5 Try.underlying9 (Kd.C_drew hs2)
    rw [hTx] at hcvd
    have hs1b := hs1
    rw [HX.out] at hs1b
    clear hs2 hTx b5 b3
    obtain ⟨t1, t2, t3, t4, t5, t6, t7, t8⟩ := HTT.out
    go_wp2_with (fail)
    simp only [List.append_eq, List.cons_append, List.nil_append]
    refine start_ (n := 79) (S := fun w' => w'.cell? ⟨w.heap.size, 0, none⟩ = some (.int .i64 s.f0) ∧ w'.cell? ⟨w.heap.size, 1, none⟩ = some (.string s.f1.f0) ∧ w'.cell? ⟨w.heap.size, 2, none⟩ = some (.string s.f1.f1) ∧ w'.cell? ⟨w.heap.size, 3, none⟩ = some (.int .u8 s.f1.f2) ∧ w'.cell? ⟨w.heap.size, 4, none⟩ = some (.int .i64 s.f1.f3) ∧ w'.cell? ⟨w.heap.size, 5, none⟩ = some (.int .i64 s.f1.f4) ∧ w'.cell? ⟨w.heap.size, 6, none⟩ = some (.int .i64 s.f1.f5) ∧ w'.cell? ⟨w.heap.size, 7, none⟩ = some (.int .i64 s.f1.f6) ∧ w'.cell? ⟨w.heap.size, 8, none⟩ = some (.string s.f1.f7) ∧ w'.cell? ⟨w.heap.size, 9, none⟩ = some (.int .i64 s.f2) ∧ w'.cell? ⟨w.heap.size, 10, none⟩ = some (.int .i64 s.f3) ∧ w'.cell? ⟨w.heap.size, 11, none⟩ = some (.string s.f4) ∧ w'.cell? ⟨w.heap.size, 12, none⟩ = some (.string s.f5) ∧ w'.cell? ⟨w.heap.size, 13, none⟩ = some (.string s.f6) ∧ w'.cell? ⟨w4.heap.size, 0, none⟩ = some (.int .i64 s.f0) ∧ w'.cell? ⟨w4.heap.size, 1, none⟩ = some (.string s.f1.f0) ∧ w'.cell? ⟨w4.heap.size, 2, none⟩ = some (.string s.f1.f1) ∧ w'.cell? ⟨w4.heap.size, 3, none⟩ = some (.int .u8 s.f1.f2) ∧ w'.cell? ⟨w4.heap.size, 4, none⟩ = some (.int .i64 s.f1.f3) ∧ w'.cell? ⟨w4.heap.size, 5, none⟩ = some (.int .i64 s.f1.f4) ∧ w'.cell? ⟨w4.heap.size, 6, none⟩ = some (.int .i64 s.f1.f5) ∧ w'.cell? ⟨w4.heap.size, 7, none⟩ = some (.int .i64 s.f1.f6) ∧ w'.cell? ⟨w4.heap.size, 8, none⟩ = some (.string s.f1.f7) ∧ w'.cell? ⟨w4.heap.size, 9, none⟩ = some (.int .i64 s.f2) ∧ w'.cell? ⟨w4.heap.size, 10, none⟩ = some (.int .i64 q) ∧ w'.cell? ⟨w4.heap.size, 11, none⟩ = some (.string s.f4) ∧ w'.cell? ⟨w4.heap.size, 12, none⟩ = some (.string s.f5) ∧ w'.cell? ⟨w4.heap.size, 13, none⟩ = some (.string s.f6) ∧ w'.cell? adE = some (.int .i64 1) ∧ w'.cell? ⟨adE.block, adE.off + 9, none⟩ = some (.string T) ∧ (convert 26 9 (.slice A T.size c)).run Try.prog w' = .ok (.string T) w') (ds := []) (u78 0) (by as_aux_lemma => kernel_rfl) rfl rfl ⟨z0_4, z1_4, z2_4, z3_4, z4_4, z5_4, z6_4, z7_4, z8_4, z9_4, z10_4, z11_4, z12_4, z13_4, u0, u1, u2, u3, u4, u5, u6, u7, u8, u9, u10, u11, u12, u13, e0, e9, hcvd⟩ (fun hHeld => ?_)
    refine pure_ (i := 0) (N := some 67) (v := ?_) (a' := ?_) (u78 1) rfl rfl (by as_aux_lemma => kernel_rfl) (fun _ _ _ h => h) (Or.inl ⟨by rfl, ?_⟩) ?_ ?_
    rotate_left
    · intro w'
      go_simp
      with_reducible rfl
    rotate_left
    · simp only [Act.put, List.setIfInBounds_toArray, List.set_cons_zero, List.set_cons_succ, i64_w, i32_w]
      rfl
    refine pure_ (i := 1) (N := some 68) (v := ?_) (a' := ?_) (u78 2) rfl rfl (by as_aux_lemma => kernel_rfl) (fun _ _ _ h => h) (Or.inl ⟨by rfl, ?_⟩) ?_ ?_
    rotate_left
    · intro w'
      go_simp
      with_reducible rfl
    rotate_left
    · simp only [Act.put, List.setIfInBounds_toArray, List.set_cons_zero, List.set_cons_succ, i64_w, i32_w]
      rfl
    refine pure_ (i := 2) (N := some 69) (v := ?_) (a' := ?_) (u78 3) rfl rfl (by as_aux_lemma => kernel_rfl) (fun _ _ _ h => h) (Or.inl ⟨by rfl, ?_⟩) ?_ ?_
    rotate_left
    · intro w'
      go_simp
      with_reducible rfl
    rotate_left
    · simp only [Act.put, List.setIfInBounds_toArray, List.set_cons_zero, List.set_cons_succ, i64_w, i32_w]
      rfl
    refine pure_ (i := 3) (N := some 70) (v := ?_) (a' := ?_) (u78 4) rfl rfl (by as_aux_lemma => kernel_rfl) (fun _ _ _ h => h) (Or.inl ⟨by rfl, ?_⟩) ?_ ?_
    rotate_left
    · intro w'
      go_simp
      with_reducible rfl
    rotate_left
    · simp only [Act.put, List.setIfInBounds_toArray, List.set_cons_zero, List.set_cons_succ, i64_w, i32_w]
      rfl
    refine pure_ (i := 4) (N := some 71) (v := ?_) (a' := ?_) (u78 5) rfl rfl (by as_aux_lemma => kernel_rfl) (fun _ _ _ h => h) (Or.inl ⟨by rfl, ?_⟩) ?_ ?_
    rotate_left
    · intro w'
      go_simp
      with_reducible rfl
    rotate_left
    · simp only [Act.put, List.setIfInBounds_toArray, List.set_cons_zero, List.set_cons_succ, i64_w, i32_w]
      rfl
    refine take_ (i := 5) (N := some 72) (v := ?_) (a' := ?_) (u78 6) rfl rfl (by as_aux_lemma => kernel_rfl) (fun _ _ _ h => h) (Or.inl ⟨by rfl, ?_⟩) hHeld ?_ ?_
    rotate_left
    · rintro w' ⟨s0, s1, s2, s3, s4, s5, s6, s7, s8, s9, s10, s11, s12, s13, s14, s15, s16, s17, s18, s19, s20, s21, s22, s23, s24, s25, s26, s27, s28, s29, s30⟩
      go_simp
      with_reducible rfl
    rotate_left
    · simp only [Act.put, List.setIfInBounds_toArray, List.set_cons_zero, List.set_cons_succ, i64_w, i32_w]
      rfl
    refine pure_ (i := 6) (N := some 73) (v := ?_) (a' := ?_) (u78 7) rfl rfl (by as_aux_lemma => kernel_rfl) (fun _ _ _ h => h) (Or.inl ⟨by rfl, ?_⟩) ?_ ?_
    rotate_left
    · intro w'
      go_simp
      with_reducible rfl
    rotate_left
    · simp only [Act.put, List.setIfInBounds_toArray, List.set_cons_zero, List.set_cons_succ, i64_w, i32_w]
      rfl
    refine pure_ (i := 7) (N := some 74) (v := ?_) (a' := ?_) (u78 8) rfl rfl (by as_aux_lemma => kernel_rfl) (fun _ _ _ h => h) (Or.inl ⟨by rfl, ?_⟩) ?_ ?_
    rotate_left
    · intro w'
      go_simp
      with_reducible rfl
    rotate_left
    · simp only [Act.put, List.setIfInBounds_toArray, List.set_cons_zero, List.set_cons_succ, i64_w, i32_w]
      rfl
    refine pure_ (i := 8) (N := some 75) (v := ?_) (a' := ?_) (u78 9) rfl rfl (by as_aux_lemma => kernel_rfl) (fun _ _ _ h => h) (Or.inl ⟨by rfl, ?_⟩) ?_ ?_
    rotate_left
    · intro w'
      go_simp
      with_reducible rfl
    rotate_left
    · simp only [Act.put, List.setIfInBounds_toArray, List.set_cons_zero, List.set_cons_succ, i64_w, i32_w]
      rfl
    refine pure_ (i := 9) (N := some 76) (v := ?_) (a' := ?_) (u78 10) rfl rfl (by as_aux_lemma => kernel_rfl) (fun _ _ _ h => h) (Or.inl ⟨by rfl, ?_⟩) ?_ ?_
    rotate_left
    · intro w'
      go_simp
      with_reducible rfl
    rotate_left
    · simp only [Act.put, List.setIfInBounds_toArray, List.set_cons_zero, List.set_cons_succ, i64_w, i32_w]
      rfl
    refine pure_ (i := 10) (N := some 77) (v := ?_) (a' := ?_) (u78 11) rfl rfl (by as_aux_lemma => kernel_rfl) (fun _ _ _ h => h) (Or.inl ⟨by rfl, ?_⟩) ?_ ?_
    rotate_left
    · intro w'
      go_simp
      with_reducible rfl
    rotate_left
    · simp only [Act.put, List.setIfInBounds_toArray, List.set_cons_zero, List.set_cons_succ, i64_w, i32_w]
      rfl
    refine pure_ (i := 11) (N := some 78) (v := ?_) (a' := ?_) (u78 12) rfl rfl (by as_aux_lemma => kernel_rfl) (fun _ _ _ h => h) (Or.inl ⟨by rfl, ?_⟩) ?_ ?_
    rotate_left
    · intro w'
      go_simp
      with_reducible rfl
    rotate_left
    · simp only [Act.put, List.setIfInBounds_toArray, List.set_cons_zero, List.set_cons_succ, i64_w, i32_w]
      rfl
    refine pure_ (i := 12) (N := some 79) (v := ?_) (a' := ?_) (u78 13) rfl rfl (by as_aux_lemma => kernel_rfl) (fun _ _ _ h => h) (Or.inl ⟨by rfl, ?_⟩) ?_ ?_
    rotate_left
    · intro w'
      go_simp
      with_reducible rfl
    rotate_left
    · simp only [Act.put, List.setIfInBounds_toArray, List.set_cons_zero, List.set_cons_succ, i64_w, i32_w]
      rfl
    refine pure_ (i := 13) (N := some 80) (v := ?_) (a' := ?_) (u78 14) rfl rfl (by as_aux_lemma => kernel_rfl) (fun _ _ _ h => h) (Or.inl ⟨by rfl, ?_⟩) ?_ ?_
    rotate_left
    · intro w'
      go_simp
      with_reducible rfl
    rotate_left
    · simp only [Act.put, List.setIfInBounds_toArray, List.set_cons_zero, List.set_cons_succ, i64_w, i32_w]
      rfl
    refine pure_ (i := 14) (N := some 81) (v := ?_) (a' := ?_) (u78 15) rfl rfl (by as_aux_lemma => kernel_rfl) (fun _ _ _ h => h) (Or.inl ⟨by rfl, ?_⟩) ?_ ?_
    rotate_left
    · intro w'
      go_simp
      with_reducible rfl
    rotate_left
    · simp only [Act.put, List.setIfInBounds_toArray, List.set_cons_zero, List.set_cons_succ, i64_w, i32_w]
      rfl
    refine pure_ (i := 15) (N := some 82) (v := ?_) (a' := ?_) (u78 16) rfl rfl (by as_aux_lemma => kernel_rfl) (fun _ _ _ h => h) (Or.inl ⟨by rfl, ?_⟩) ?_ ?_
    rotate_left
    · intro w'
      go_simp
      with_reducible rfl
    rotate_left
    · simp only [Act.put, List.setIfInBounds_toArray, List.set_cons_zero, List.set_cons_succ, i64_w, i32_w]
      rfl
    refine pure_ (i := 16) (N := some 83) (v := ?_) (a' := ?_) (u78 17) rfl rfl (by as_aux_lemma => kernel_rfl) (fun _ _ _ h => h) (Or.inl ⟨by rfl, ?_⟩) ?_ ?_
    rotate_left
    · intro w'
      go_simp
      with_reducible rfl
    rotate_left
    · simp only [Act.put, List.setIfInBounds_toArray, List.set_cons_zero, List.set_cons_succ, i64_w, i32_w]
      rfl
    refine pure_ (i := 17) (N := some 84) (v := ?_) (a' := ?_) (u78 18) rfl rfl (by as_aux_lemma => kernel_rfl) (fun _ _ _ h => h) (Or.inl ⟨by rfl, ?_⟩) ?_ ?_
    rotate_left
    · intro w'
      go_simp
      with_reducible rfl
    rotate_left
    · simp only [Act.put, List.setIfInBounds_toArray, List.set_cons_zero, List.set_cons_succ, i64_w, i32_w]
      rfl
    refine pure_ (i := 18) (N := some 85) (v := ?_) (a' := ?_) (u78 19) rfl rfl (by as_aux_lemma => kernel_rfl) (fun _ _ _ h => h) (Or.inl ⟨by rfl, ?_⟩) ?_ ?_
    rotate_left
    · intro w'
      go_simp
      with_reducible rfl
    rotate_left
    · simp only [Act.put, List.setIfInBounds_toArray, List.set_cons_zero, List.set_cons_succ, i64_w, i32_w]
      rfl
    refine take_ (i := 19) (N := some 86) (v := ?_) (a' := ?_) (u78 20) rfl rfl (by as_aux_lemma => kernel_rfl) (fun _ _ _ h => h) (Or.inl ⟨by rfl, ?_⟩) hHeld ?_ ?_
    rotate_left
    · rintro w' ⟨s0, s1, s2, s3, s4, s5, s6, s7, s8, s9, s10, s11, s12, s13, s14, s15, s16, s17, s18, s19, s20, s21, s22, s23, s24, s25, s26, s27, s28, s29, s30⟩
      go_simp
      with_reducible rfl
    rotate_left
    · simp only [Act.put, List.setIfInBounds_toArray, List.set_cons_zero, List.set_cons_succ, i64_w, i32_w]
      rfl
    refine pure_ (i := 20) (N := some 87) (v := ?_) (a' := ?_) (u78 21) rfl rfl (by as_aux_lemma => kernel_rfl) (fun _ _ _ h => h) (Or.inl ⟨by rfl, ?_⟩) ?_ ?_
    rotate_left
    · intro w'
      go_simp
      with_reducible rfl
    rotate_left
    · simp only [Act.put, List.setIfInBounds_toArray, List.set_cons_zero, List.set_cons_succ, i64_w, i32_w]
      rfl
    refine pure_ (i := 21) (N := some 88) (v := ?_) (a' := ?_) (u78 22) rfl rfl (by as_aux_lemma => kernel_rfl) (fun _ _ _ h => h) (Or.inl ⟨by rfl, ?_⟩) ?_ ?_
    rotate_left
    · intro w'
      go_simp
      with_reducible rfl
    rotate_left
    · simp only [Act.put, List.setIfInBounds_toArray, List.set_cons_zero, List.set_cons_succ, i64_w, i32_w]
      rfl
    refine pure_ (i := 22) (N := some 89) (v := ?_) (a' := ?_) (u78 23) rfl rfl (by as_aux_lemma => kernel_rfl) (fun _ _ _ h => h) (Or.inl ⟨by rfl, ?_⟩) ?_ ?_
    rotate_left
    · intro w'
      go_simp
      with_reducible rfl
    rotate_left
    · simp only [Act.put, List.setIfInBounds_toArray, List.set_cons_zero, List.set_cons_succ, i64_w, i32_w]
      rfl
    refine take_ (i := 23) (N := some 90) (v := ?_) (a' := ?_) (u78 24) rfl rfl (by as_aux_lemma => kernel_rfl) (fun _ _ _ h => h) (Or.inl ⟨by rfl, ?_⟩) hHeld ?_ ?_
    rotate_left
    · rintro w' ⟨s0, s1, s2, s3, s4, s5, s6, s7, s8, s9, s10, s11, s12, s13, s14, s15, s16, s17, s18, s19, s20, s21, s22, s23, s24, s25, s26, s27, s28, s29, s30⟩
      go_simp
      with_reducible rfl
    rotate_left
    · simp only [Act.put, List.setIfInBounds_toArray, List.set_cons_zero, List.set_cons_succ, i64_w, i32_w]
      rfl
    refine pure_ (i := 24) (N := some 91) (v := ?_) (a' := ?_) (u78 25) rfl rfl (by as_aux_lemma => kernel_rfl) (fun _ _ _ h => h) (Or.inl ⟨by rfl, ?_⟩) ?_ ?_
    rotate_left
    · intro w'
      go_simp
      with_reducible rfl
    rotate_left
    · simp only [Act.put, List.setIfInBounds_toArray, List.set_cons_zero, List.set_cons_succ, i64_w, i32_w]
      rfl
    refine pure_ (i := 25) (N := some 92) (v := ?_) (a' := ?_) (u78 26) rfl rfl (by as_aux_lemma => kernel_rfl) (fun _ _ _ h => h) (Or.inl ⟨by rfl, ?_⟩) ?_ ?_
    rotate_left
    · intro w'
      go_simp
      with_reducible rfl
    rotate_left
    · simp only [Act.put, List.setIfInBounds_toArray, List.set_cons_zero, List.set_cons_succ, i64_w, i32_w]
      rfl
    refine pure_ (i := 26) (N := some 93) (v := ?_) (a' := ?_) (u78 27) rfl rfl (by as_aux_lemma => kernel_rfl) (fun _ _ _ h => h) (Or.inl ⟨by rfl, ?_⟩) ?_ ?_
    rotate_left
    · intro w'
      go_simp
      with_reducible rfl
    rotate_left
    · simp only [Act.put, List.setIfInBounds_toArray, List.set_cons_zero, List.set_cons_succ, i64_w, i32_w]
      rfl
    refine pure_ (i := 27) (N := some 94) (v := ?_) (a' := ?_) (u78 28) rfl rfl (by as_aux_lemma => kernel_rfl) (fun _ _ _ h => h) (Or.inl ⟨by rfl, ?_⟩) ?_ ?_
    rotate_left
    · intro w'
      go_simp
      with_reducible rfl
    rotate_left
    · simp only [Act.put, List.setIfInBounds_toArray, List.set_cons_zero, List.set_cons_succ, i64_w, i32_w]
      rfl
    refine pure_ (i := 28) (N := some 95) (v := ?_) (a' := ?_) (u78 29) rfl rfl (by as_aux_lemma => kernel_rfl) (fun _ _ _ h => h) (Or.inl ⟨by rfl, ?_⟩) ?_ ?_
    rotate_left
    · intro w'
      go_simp
      with_reducible rfl
    rotate_left
    · simp only [Act.put, List.setIfInBounds_toArray, List.set_cons_zero, List.set_cons_succ, i64_w, i32_w]
      rfl
    refine pure_ (i := 29) (N := some 96) (v := undef) (a' := ?_) (u78 30) rfl rfl (by as_aux_lemma => kernel_rfl) (fun _ _ _ h => h) (Or.inr ⟨by rfl, rfl⟩) ?_ ?_
    rotate_left
    · simp only [Act.put, List.setIfInBounds_toArray, List.set_cons_zero, List.set_cons_succ, i64_w, i32_w]
      rfl
    refine pure_ (i := 30) (N := some 97) (v := undef) (a' := ?_) (u78 31) rfl rfl (by as_aux_lemma => kernel_rfl) (fun _ _ _ h => h) (Or.inr ⟨by rfl, rfl⟩) ?_ ?_
    rotate_left
    · simp only [Act.put, List.setIfInBounds_toArray, List.set_cons_zero, List.set_cons_succ, i64_w, i32_w]
      rfl
    refine pure_ (i := 31) (N := some 98) (v := undef) (a' := ?_) (u78 32) rfl rfl (by as_aux_lemma => kernel_rfl) (fun _ _ _ h => h) (Or.inr ⟨by rfl, rfl⟩) ?_ ?_
    rotate_left
    · simp only [Act.put, List.setIfInBounds_toArray, List.set_cons_zero, List.set_cons_succ, i64_w, i32_w]
      rfl
    refine pure_ (i := 32) (N := some 99) (v := ?_) (a' := ?_) (u78 33) rfl rfl (by as_aux_lemma => kernel_rfl) (fun _ _ _ h => h) (Or.inl ⟨by rfl, ?_⟩) ?_ ?_
    rotate_left
    · intro w'
      go_simp
      with_reducible rfl
    rotate_left
    · simp only [Act.put, List.setIfInBounds_toArray, List.set_cons_zero, List.set_cons_succ, i64_w, i32_w]
      rfl
    refine pure_ (i := 33) (N := some 100) (v := ?_) (a' := ?_) (u78 34) rfl rfl (by as_aux_lemma => kernel_rfl) (fun _ _ _ h => h) (Or.inl ⟨by rfl, ?_⟩) ?_ ?_
    rotate_left
    · intro w'
      go_simp
      with_reducible rfl
    rotate_left
    · simp only [Act.put, List.setIfInBounds_toArray, List.set_cons_zero, List.set_cons_succ, i64_w, i32_w]
      rfl
    refine pure_ (i := 34) (N := some 101) (v := undef) (a' := ?_) (u78 35) rfl rfl (by as_aux_lemma => kernel_rfl) (fun _ _ _ h => h) (Or.inr ⟨by rfl, rfl⟩) ?_ ?_
    rotate_left
    · simp only [Act.put, List.setIfInBounds_toArray, List.set_cons_zero, List.set_cons_succ, i64_w, i32_w]
      rfl
    refine pure_ (i := 35) (N := some 102) (v := undef) (a' := ?_) (u78 36) rfl rfl (by as_aux_lemma => kernel_rfl) (fun _ _ _ h => h) (Or.inr ⟨by rfl, rfl⟩) ?_ ?_
    rotate_left
    · simp only [Act.put, List.setIfInBounds_toArray, List.set_cons_zero, List.set_cons_succ, i64_w, i32_w]
      rfl
    refine pure_ (i := 36) (N := some 103) (v := undef) (a' := ?_) (u78 37) rfl rfl (by as_aux_lemma => kernel_rfl) (fun _ _ _ h => h) (Or.inr ⟨by rfl, rfl⟩) ?_ ?_
    rotate_left
    · simp only [Act.put, List.setIfInBounds_toArray, List.set_cons_zero, List.set_cons_succ, i64_w, i32_w]
      rfl
    refine pure_ (i := 37) (N := some 104) (v := ?_) (a' := ?_) (u78 38) rfl rfl (by as_aux_lemma => kernel_rfl) (fun _ _ _ h => h) (Or.inl ⟨by rfl, ?_⟩) ?_ ?_
    rotate_left
    · intro w'
      go_simp
      with_reducible rfl
    rotate_left
    · simp only [Act.put, List.setIfInBounds_toArray, List.set_cons_zero, List.set_cons_succ, i64_w, i32_w]
      rfl
    refine pure_ (i := 38) (N := some 105) (v := ?_) (a' := ?_) (u78 39) rfl rfl (by as_aux_lemma => kernel_rfl) (fun _ _ _ h => h) (Or.inl ⟨by rfl, ?_⟩) ?_ ?_
    rotate_left
    · intro w'
      go_simp
      with_reducible rfl
    rotate_left
    · simp only [Act.put, List.setIfInBounds_toArray, List.set_cons_zero, List.set_cons_succ, i64_w, i32_w]
      rfl
    refine pure_ (i := 39) (N := some 106) (v := undef) (a' := ?_) (u78 40) rfl rfl (by as_aux_lemma => kernel_rfl) (fun _ _ _ h => h) (Or.inr ⟨by rfl, rfl⟩) ?_ ?_
    rotate_left
    · simp only [Act.put, List.setIfInBounds_toArray, List.set_cons_zero, List.set_cons_succ, i64_w, i32_w]
      rfl
    refine pure_ (i := 40) (N := some 107) (v := undef) (a' := ?_) (u78 41) rfl rfl (by as_aux_lemma => kernel_rfl) (fun _ _ _ h => h) (Or.inr ⟨by rfl, rfl⟩) ?_ ?_
    rotate_left
    · simp only [Act.put, List.setIfInBounds_toArray, List.set_cons_zero, List.set_cons_succ, i64_w, i32_w]
      rfl
    refine pure_ (i := 41) (N := some 108) (v := undef) (a' := ?_) (u78 42) rfl rfl (by as_aux_lemma => kernel_rfl) (fun _ _ _ h => h) (Or.inr ⟨by rfl, rfl⟩) ?_ ?_
    rotate_left
    · simp only [Act.put, List.setIfInBounds_toArray, List.set_cons_zero, List.set_cons_succ, i64_w, i32_w]
      rfl
    refine pure_ (i := 42) (N := some 109) (v := undef) (a' := ?_) (u78 43) rfl rfl (by as_aux_lemma => kernel_rfl) (fun _ _ _ h => h) (Or.inr ⟨by rfl, rfl⟩) ?_ ?_
    rotate_left
    · simp only [Act.put, List.setIfInBounds_toArray, List.set_cons_zero, List.set_cons_succ, i64_w, i32_w]
      rfl
    refine pure_ (i := 43) (N := some 110) (v := undef) (a' := ?_) (u78 44) rfl rfl (by as_aux_lemma => kernel_rfl) (fun _ _ _ h => h) (Or.inr ⟨by rfl, rfl⟩) ?_ ?_
    rotate_left
    · simp only [Act.put, List.setIfInBounds_toArray, List.set_cons_zero, List.set_cons_succ, i64_w, i32_w]
      rfl
    refine pure_ (i := 44) (N := some 111) (v := ?_) (a' := ?_) (u78 45) rfl rfl (by as_aux_lemma => kernel_rfl) (fun _ _ _ h => h) (Or.inl ⟨by rfl, ?_⟩) ?_ ?_
    rotate_left
    · intro w'
      go_simp
      with_reducible rfl
    rotate_left
    · simp only [Act.put, List.setIfInBounds_toArray, List.set_cons_zero, List.set_cons_succ, i64_w, i32_w]
      rfl
    refine pure_ (i := 45) (N := some 112) (v := ?_) (a' := ?_) (u78 46) rfl rfl (by as_aux_lemma => kernel_rfl) (fun _ _ _ h => h) (Or.inl ⟨by rfl, ?_⟩) ?_ ?_
    rotate_left
    · intro w'
      go_simp
      with_reducible rfl
    rotate_left
    · simp only [Act.put, List.setIfInBounds_toArray, List.set_cons_zero, List.set_cons_succ, i64_w, i32_w]
      rfl
    refine pure_ (i := 46) (N := some 113) (v := ?_) (a' := ?_) (u78 47) rfl rfl (by as_aux_lemma => kernel_rfl) (fun _ _ _ h => h) (Or.inl ⟨by rfl, ?_⟩) ?_ ?_
    rotate_left
    · intro w'
      go_simp
      with_reducible rfl
    rotate_left
    · simp only [Act.put, List.setIfInBounds_toArray, List.set_cons_zero, List.set_cons_succ, i64_w, i32_w]
      rfl
    refine pure_ (i := 47) (N := some 114) (v := ?_) (a' := ?_) (u78 48) rfl rfl (by as_aux_lemma => kernel_rfl) (fun _ _ _ h => h) (Or.inl ⟨by rfl, ?_⟩) ?_ ?_
    rotate_left
    · intro w'
      go_simp
      with_reducible rfl
    rotate_left
    · simp only [Act.put, List.setIfInBounds_toArray, List.set_cons_zero, List.set_cons_succ, i64_w, i32_w]
      rfl
    refine pure_ (i := 48) (N := some 115) (v := ?_) (a' := ?_) (u78 49) rfl rfl (by as_aux_lemma => kernel_rfl) (fun _ _ _ h => h) (Or.inl ⟨by rfl, ?_⟩) ?_ ?_
    rotate_left
    · intro w'
      go_simp
      with_reducible rfl
    rotate_left
    · simp only [Act.put, List.setIfInBounds_toArray, List.set_cons_zero, List.set_cons_succ, i64_w, i32_w]
      rfl
    refine pure_ (i := 49) (N := some 116) (v := ?_) (a' := ?_) (u78 50) rfl rfl (by as_aux_lemma => kernel_rfl) (fun _ _ _ h => h) (Or.inl ⟨by rfl, ?_⟩) ?_ ?_
    rotate_left
    · intro w'
      go_simp
      with_reducible rfl
    rotate_left
    · simp only [Act.put, List.setIfInBounds_toArray, List.set_cons_zero, List.set_cons_succ, i64_w, i32_w]
      rfl
    refine pure_ (i := 50) (N := some 117) (v := ?_) (a' := ?_) (u78 51) rfl rfl (by as_aux_lemma => kernel_rfl) (fun _ _ _ h => h) (Or.inl ⟨by rfl, ?_⟩) ?_ ?_
    rotate_left
    · intro w'
      go_simp
      with_reducible rfl
    rotate_left
    · simp only [Act.put, List.setIfInBounds_toArray, List.set_cons_zero, List.set_cons_succ, i64_w, i32_w]
      rfl
    refine pure_ (i := 51) (N := some 118) (v := ?_) (a' := ?_) (u78 52) rfl rfl (by as_aux_lemma => kernel_rfl) (fun _ _ _ h => h) (Or.inl ⟨by rfl, ?_⟩) ?_ ?_
    rotate_left
    · intro w'
      go_simp
      with_reducible rfl
    rotate_left
    · simp only [Act.put, List.setIfInBounds_toArray, List.set_cons_zero, List.set_cons_succ, i64_w, i32_w]
      rfl
    refine pure_ (i := 52) (N := some 119) (v := ?_) (a' := ?_) (u78 53) rfl rfl (by as_aux_lemma => kernel_rfl) (fun _ _ _ h => h) (Or.inl ⟨by rfl, ?_⟩) ?_ ?_
    rotate_left
    · intro w'
      go_simp
      with_reducible rfl
    rotate_left
    · simp only [Act.put, List.setIfInBounds_toArray, List.set_cons_zero, List.set_cons_succ, i64_w, i32_w]
      rfl
    refine pure_ (i := 53) (N := some 120) (v := ?_) (a' := ?_) (u78 54) rfl rfl (by as_aux_lemma => kernel_rfl) (fun _ _ _ h => h) (Or.inl ⟨by rfl, ?_⟩) ?_ ?_
    rotate_left
    · intro w'
      go_simp
      with_reducible rfl
    rotate_left
    · simp only [Act.put, List.setIfInBounds_toArray, List.set_cons_zero, List.set_cons_succ, i64_w, i32_w]
      rfl
    refine pure_ (i := 54) (N := some 121) (v := ?_) (a' := ?_) (u78 55) rfl rfl (by as_aux_lemma => kernel_rfl) (fun _ _ _ h => h) (Or.inl ⟨by rfl, ?_⟩) ?_ ?_
    rotate_left
    · intro w'
      go_simp
      with_reducible rfl
    rotate_left
    · simp only [Act.put, List.setIfInBounds_toArray, List.set_cons_zero, List.set_cons_succ, i64_w, i32_w]
      rfl
    refine take_ (i := 55) (N := some 122) (v := ?_) (a' := ?_) (u78 56) rfl rfl (by as_aux_lemma => kernel_rfl) (fun _ _ _ h => h) (Or.inl ⟨by rfl, ?_⟩) hHeld ?_ ?_
    rotate_left
    · rintro w' ⟨s0, s1, s2, s3, s4, s5, s6, s7, s8, s9, s10, s11, s12, s13, s14, s15, s16, s17, s18, s19, s20, s21, s22, s23, s24, s25, s26, s27, s28, s29, s30⟩
      go_simp
      with_reducible rfl
    rotate_left
    · simp only [Act.put, List.setIfInBounds_toArray, List.set_cons_zero, List.set_cons_succ, i64_w, i32_w]
      rfl
    refine pure_ (i := 56) (N := some 123) (v := ?_) (a' := ?_) (u78 57) rfl rfl (by as_aux_lemma => kernel_rfl) (fun _ _ _ h => h) (Or.inl ⟨by rfl, ?_⟩) ?_ ?_
    rotate_left
    · intro w'
      go_simp
      with_reducible rfl
    rotate_left
    · simp only [Act.put, List.setIfInBounds_toArray, List.set_cons_zero, List.set_cons_succ, i64_w, i32_w]
      rfl
    refine take_ (i := 57) (N := some 124) (v := ?_) (a' := ?_) (u78 58) rfl rfl (by as_aux_lemma => kernel_rfl) (fun _ _ _ h => h) (Or.inl ⟨by rfl, ?_⟩) hHeld ?_ ?_
    rotate_left
    · rintro w' ⟨s0, s1, s2, s3, s4, s5, s6, s7, s8, s9, s10, s11, s12, s13, s14, s15, s16, s17, s18, s19, s20, s21, s22, s23, s24, s25, s26, s27, s28, s29, s30⟩
      go_simp
      with_reducible rfl
    rotate_left
    · simp only [Act.put, List.setIfInBounds_toArray, List.set_cons_zero, List.set_cons_succ, i64_w, i32_w]
      rfl
    refine pure_ (i := 58) (N := some 125) (v := ?_) (a' := ?_) (u78 59) rfl rfl (by as_aux_lemma => kernel_rfl) (fun _ _ _ h => h) (Or.inl ⟨by rfl, ?_⟩) ?_ ?_
    rotate_left
    · intro w'
      go_simp
      with_reducible rfl
    rotate_left
    · simp only [Act.put, List.setIfInBounds_toArray, List.set_cons_zero, List.set_cons_succ, i64_w, i32_w]
      rfl
    refine pure_ (i := 59) (N := some 126) (v := ?_) (a' := ?_) (u78 60) rfl rfl (by as_aux_lemma => kernel_rfl) (fun _ _ _ h => h) (Or.inl ⟨by rfl, ?_⟩) ?_ ?_
    rotate_left
    · intro w'
      go_simp
      with_reducible rfl
    rotate_left
    · simp only [Act.put, List.setIfInBounds_toArray, List.set_cons_zero, List.set_cons_succ, i64_w, i32_w]
      rfl
    refine pure_ (i := 60) (N := some 127) (v := ?_) (a' := ?_) (u78 61) rfl rfl (by as_aux_lemma => kernel_rfl) (fun _ _ _ h => h) (Or.inl ⟨by rfl, ?_⟩) ?_ ?_
    rotate_left
    · intro w'
      go_simp
      with_reducible rfl
    rotate_left
    · simp only [Act.put, List.setIfInBounds_toArray, List.set_cons_zero, List.set_cons_succ, i64_w, i32_w]
      rfl
    refine pure_ (i := 61) (N := some 128) (v := ?_) (a' := ?_) (u78 62) rfl rfl (by as_aux_lemma => kernel_rfl) (fun _ _ _ h => h) (Or.inl ⟨by rfl, ?_⟩) ?_ ?_
    rotate_left
    · intro w'
      go_simp
      with_reducible rfl
    rotate_left
    · simp only [Act.put, List.setIfInBounds_toArray, List.set_cons_zero, List.set_cons_succ, i64_w, i32_w]
      rfl
    refine pure_ (i := 62) (N := some 129) (v := ?_) (a' := ?_) (u78 63) rfl rfl (by as_aux_lemma => kernel_rfl) (fun _ _ _ h => h) (Or.inl ⟨by rfl, ?_⟩) ?_ ?_
    rotate_left
    · intro w'
      go_simp
      with_reducible rfl
    rotate_left
    · simp only [Act.put, List.setIfInBounds_toArray, List.set_cons_zero, List.set_cons_succ, i64_w, i32_w]
      rfl
    refine pure_ (i := 63) (N := some 130) (v := ?_) (a' := ?_) (u78 64) rfl rfl (by as_aux_lemma => kernel_rfl) (fun _ _ _ h => h) (Or.inl ⟨by rfl, ?_⟩) ?_ ?_
    rotate_left
    · intro w'
      go_simp
      with_reducible rfl
    rotate_left
    · simp only [Act.put, List.setIfInBounds_toArray, List.set_cons_zero, List.set_cons_succ, i64_w, i32_w]
      rfl
    refine take_ (i := 64) (N := some 131) (v := ?_) (a' := ?_) (u78 65) rfl rfl (by as_aux_lemma => kernel_rfl) (fun _ _ _ h => h) (Or.inl ⟨by rfl, ?_⟩) hHeld ?_ ?_
    rotate_left
    · rintro w' ⟨s0, s1, s2, s3, s4, s5, s6, s7, s8, s9, s10, s11, s12, s13, s14, s15, s16, s17, s18, s19, s20, s21, s22, s23, s24, s25, s26, s27, s28, s29, s30⟩
      go_simp
      with_reducible rfl
    rotate_left
    · simp only [Act.put, List.setIfInBounds_toArray, List.set_cons_zero, List.set_cons_succ, i64_w, i32_w]
      rfl
    refine pure_ (i := 65) (N := some 132) (v := ?_) (a' := ?_) (u78 66) rfl rfl (by as_aux_lemma => kernel_rfl) (fun _ _ _ h => h) (Or.inl ⟨by rfl, ?_⟩) ?_ ?_
    rotate_left
    · intro w'
      go_simp
      with_reducible rfl
    rotate_left
    · simp only [Act.put, List.setIfInBounds_toArray, List.set_cons_zero, List.set_cons_succ, i64_w, i32_w]
      rfl
    refine take_ (i := 66) (N := some 133) (v := ?_) (a' := ?_) (u78 67) rfl rfl (by as_aux_lemma => kernel_rfl) (fun _ _ _ h => h) (Or.inl ⟨by rfl, ?_⟩) hHeld ?_ ?_
    rotate_left
    · rintro w' ⟨s0, s1, s2, s3, s4, s5, s6, s7, s8, s9, s10, s11, s12, s13, s14, s15, s16, s17, s18, s19, s20, s21, s22, s23, s24, s25, s26, s27, s28, s29, s30⟩
      go_simp
      with_reducible rfl
    rotate_left
    · simp only [Act.put, List.setIfInBounds_toArray, List.set_cons_zero, List.set_cons_succ, i64_w, i32_w]
      rfl
    refine pure_ (i := 67) (N := some 134) (v := ?_) (a' := ?_) (u78 68) rfl rfl (by as_aux_lemma => kernel_rfl) (fun _ _ _ h => h) (Or.inl ⟨by rfl, ?_⟩) ?_ ?_
    rotate_left
    · intro w'
      go_simp
      with_reducible rfl
    rotate_left
    · simp only [Act.put, List.setIfInBounds_toArray, List.set_cons_zero, List.set_cons_succ, i64_w, i32_w]
      rfl
    refine pure_ (i := 68) (N := some 135) (v := ?_) (a' := ?_) (u78 69) rfl rfl (by as_aux_lemma => kernel_rfl) (fun _ _ _ h => h) (Or.inl ⟨by rfl, ?_⟩) ?_ ?_
    rotate_left
    · intro w'
      go_simp
      with_reducible rfl
    rotate_left
    · simp only [Act.put, List.setIfInBounds_toArray, List.set_cons_zero, List.set_cons_succ, i64_w, i32_w]
      rfl
    refine pure_ (i := 69) (N := some 136) (v := ?_) (a' := ?_) (u78 70) rfl rfl (by as_aux_lemma => kernel_rfl) (fun _ _ _ h => h) (Or.inl ⟨by rfl, ?_⟩) ?_ ?_
    rotate_left
    · intro w'
      go_simp
      with_reducible rfl
    rotate_left
    · simp only [Act.put, List.setIfInBounds_toArray, List.set_cons_zero, List.set_cons_succ, i64_w, i32_w]
      rfl
    refine pure_ (i := 70) (N := some 137) (v := ?_) (a' := ?_) (u78 71) rfl rfl (by as_aux_lemma => kernel_rfl) (fun _ _ _ h => h) (Or.inl ⟨by rfl, ?_⟩) ?_ ?_
    rotate_left
    · intro w'
      go_simp
      with_reducible rfl
    rotate_left
    · simp only [Act.put, List.setIfInBounds_toArray, List.set_cons_zero, List.set_cons_succ, i64_w, i32_w]
      rfl
    refine take_ (i := 71) (N := some 138) (v := ?_) (a' := ?_) (u78 72) rfl rfl (by as_aux_lemma => kernel_rfl) (fun _ _ _ h => h) (Or.inl ⟨by rfl, ?_⟩) hHeld ?_ ?_
    rotate_left
    · rintro w' ⟨s0, s1, s2, s3, s4, s5, s6, s7, s8, s9, s10, s11, s12, s13, s14, s15, s16, s17, s18, s19, s20, s21, s22, s23, s24, s25, s26, s27, s28, s29, s30⟩
      go_simp
      with_reducible rfl
    rotate_left
    · simp only [Act.put, List.setIfInBounds_toArray, List.set_cons_zero, List.set_cons_succ, i64_w, i32_w]
      rfl
    refine pure_ (i := 72) (N := some 139) (v := ?_) (a' := ?_) (u78 73) rfl rfl (by as_aux_lemma => kernel_rfl) (fun _ _ _ h => h) (Or.inl ⟨by rfl, ?_⟩) ?_ ?_
    rotate_left
    · intro w'
      go_simp
      with_reducible rfl
    rotate_left
    · simp only [Act.put, List.setIfInBounds_toArray, List.set_cons_zero, List.set_cons_succ, i64_w, i32_w]
      rfl
    refine take_ (i := 73) (N := some 140) (v := ?_) (a' := ?_) (u78 74) rfl rfl (by as_aux_lemma => kernel_rfl) (fun _ _ _ h => h) (Or.inl ⟨by rfl, ?_⟩) hHeld ?_ ?_
    rotate_left
    · rintro w' ⟨s0, s1, s2, s3, s4, s5, s6, s7, s8, s9, s10, s11, s12, s13, s14, s15, s16, s17, s18, s19, s20, s21, s22, s23, s24, s25, s26, s27, s28, s29, s30⟩
      go_simp
      with_reducible rfl
    rotate_left
    · simp only [Act.put, List.setIfInBounds_toArray, List.set_cons_zero, List.set_cons_succ, i64_w, i32_w]
      rfl
    refine pure_ (i := 74) (N := some 141) (v := ?_) (a' := ?_) (u78 75) rfl rfl (by as_aux_lemma => kernel_rfl) (fun _ _ _ h => h) (Or.inl ⟨by rfl, ?_⟩) ?_ ?_
    rotate_left
    · intro w'
      go_simp
      with_reducible rfl
    rotate_left
    · simp only [Act.put, List.setIfInBounds_toArray, List.set_cons_zero, List.set_cons_succ, i64_w, i32_w]
      rfl
    refine pure_ (i := 75) (N := some 142) (v := ?_) (a' := ?_) (u78 76) rfl rfl (by as_aux_lemma => kernel_rfl) (fun _ _ _ h => h) (Or.inl ⟨by rfl, ?_⟩) ?_ ?_
    rotate_left
    · intro w'
      go_simp
      with_reducible rfl
    rotate_left
    · simp only [Act.put, List.setIfInBounds_toArray, List.set_cons_zero, List.set_cons_succ, i64_w, i32_w]
      rfl
    refine pure_ (i := 76) (N := some 143) (v := ?_) (a' := ?_) (u78 77) rfl rfl (by as_aux_lemma => kernel_rfl) (fun _ _ _ h => h) (Or.inl ⟨by rfl, ?_⟩) ?_ ?_
    rotate_left
    · intro w'
      go_simp
      with_reducible rfl
    rotate_left
    · simp only [Act.put, List.setIfInBounds_toArray, List.set_cons_zero, List.set_cons_succ, i64_w, i32_w]
      rfl
    refine pure_ (i := 77) (N := some 144) (v := ?_) (a' := ?_) (u78 78) rfl rfl (by as_aux_lemma => kernel_rfl) (fun _ _ _ h => h) (Or.inl ⟨by rfl, ?_⟩) ?_ ?_
    rotate_left
    · intro w'
      go_simp
      with_reducible rfl
    rotate_left
    · simp only [Act.put, List.setIfInBounds_toArray, List.set_cons_zero, List.set_cons_succ, i64_w, i32_w]
      rfl
    refine pure_ (i := 78) (N := some 4) (v := ?_) (a' := ?_) (u78 79) rfl rfl (by as_aux_lemma => kernel_rfl) (fun _ _ _ h => h) (Or.inl ⟨by rfl, ?_⟩) ?_ ?_
    rotate_left
    · intro w'
      go_simp
      with_reducible rfl
    rotate_left
    · simp only [Act.put, List.setIfInBounds_toArray, List.set_cons_zero, List.set_cons_succ, i64_w, i32_w]
      rfl
    refine done_ (by as_aux_lemma => kernel_rfl) ?_
    go_wp2_with (fail)
    go_ret
    exact ⟨rfl, below_drew HB4.out⟩
theorem reelkeeperlaw09_ParseLeft.calls (k : Nat) (s : Pst) (A : Option Addr) (c : Nat) (l : List Int) (r : Bool) (w : World) (hC : Kd.C (Kd.int .u8) w A l.length l) (hc : l.length ≤ c) (hby : ∀ y ∈ l, 0 ≤ y ∧ y ≤ 255) (h : reelkeeperlaw09_ParseLeft.f k s l = some r) :
    Calls Try.prog 5 #[.agg #[.int .i64 s.f0, .string s.f1.f0, .string s.f1.f1, .int .u8 s.f1.f2, .int .i64 s.f1.f3, .int .i64 s.f1.f4, .int .i64 s.f1.f5, .int .i64 s.f1.f6, .string s.f1.f7, .int .i64 s.f2, .int .i64 s.f3, .string s.f4, .string s.f5, .string s.f6], .slice A l.length c] w fun e w' => e = .returned (.bool r) ∧ Below w.heap.size w w' := by
  obtain rfl : true = r := Option.some.inj h
  exact parse_left.at_ s A c l w hC hc hby

end Go.Proofs.Ytoahjigjlgcjkaa.X
