import Derived.Test.YtoahjigjlgcjkaaXK
import Derived.Test.YtoahjigjlgcjkaaXE23
import Derived.Test.YtoahjigjlgcjkaaXE25
import Derived.Test.YtoahjigjlgcjkaaXGpa
import Derived.Test.YtoahjigjlgcjkaaXGpg
import Derived.Test.YtoahjigjlgcjkaaXGpj
import Derived.Test.YtoahjigjlgcjkaaXGpk
import Derived.Test.YtoahjigjlgcjkaaXGpmay
import Derived.Test.YtoahjigjlgcjkaaXGslices
import Derived.Test.YtoahjigjlgcjkaaXreelkeeperlaw05Few
import Derived.Test.YtoahjigjlgcjkaaYAll
import Derived.Test.YtoahjigjlgcjkaaP04g
import Derived.Test.YtoahjigjlgcjkaaP09a
import Derived.Test.YtoahjigjlgcjkaaP09p
import Derived.Test.YtoahjigjlgcjkaaP09t
import Derived.Test.YtoahjigjlgcjkaaPGA
import Derived.Test.YtoahjigjlgcjkaaPGE
import Derived.Deep.RegionHeld3
import Derived.Laws.EntriesVeiled
import Derived.WalkSpells
namespace Go.Proofs.Ytoahjigjlgcjkaa.X
open Go.RowKit Go.Proofs.YtoahjigjlgcjkaaW.PrintWords Go.Proofs.YtoahjigjlgcjkaaW.PrintLast Go.Proofs.YtoahjigjlgcjkaaW.PrintMore
attribute [local go_sem] max2_int min2_int max_two min_two
set_option linter.unusedVariables false
set_option linter.unusedSimpArgs false

attribute [local go_sem high] eqA23 eqA25
open Go.Proofs.YtoahjigjlgcjkaaY
set_option maxRecDepth 100000
def reelkeeperlaw09_ParseTypes.f (k : Nat) (s : Pst) (n : Nd) : Option Bool := some true
theorem ParseTypes_told (s : Pst) (n : Nd) : ∃ k, reelkeeperlaw09_ParseTypes.f k s n = some true := ⟨0, rfl⟩
set_option maxHeartbeats 6400000 in
theorem parse_types.at_ (s : Pst) (n : Nd) (w : World) :
    Calls Try.prog 8 #[.agg #[.int .i64 s.f0, .string s.f1.f0, .string s.f1.f1, .int .u8 s.f1.f2, .int .i64 s.f1.f3, .int .i64 s.f1.f4, .int .i64 s.f1.f5, .int .i64 s.f1.f6, .string s.f1.f7, .int .i64 s.f2, .int .i64 s.f3, .string s.f4, .string s.f5, .string s.f6], .agg #[.string n.f0, .string n.f1, .int .u8 n.f2, .int .i64 n.f3, .int .i64 n.f4, .int .i64 n.f5, .int .i64 n.f6, .string n.f7]] w fun e w' => e = .returned (.bool true) ∧ Below w.heap.size w w' := by
  have hup := fun W => awake9.at_ W
  have hfew := fun W => few9.at_ s W
  have hf5 := fun W => reelkeeperlaw05_Few.calls n.f0 n.f1 n.f2 n.f3 n.f4 n.f5 n.f6 n.f7 _ W (few5 n)
  have HB0 := Aside0.mk (Below.refl w.heap.size w)
  have HB0 := Aside0.mk (below_alloc HB0.out (.cells #[.int .i64 s.f0, .string s.f1.f0, .string s.f1.f1, .int .u8 s.f1.f2, .int .i64 s.f1.f3, .int .i64 s.f1.f4, .int .i64 s.f1.f5, .int .i64 s.f1.f6, .string s.f1.f7, .int .i64 s.f2, .int .i64 s.f3, .string s.f4, .string s.f5, .string s.f6] 25))
  have HS0 := Aside0.mk (heap_alloc_new w (.cells #[.int .i64 s.f0, .string s.f1.f0, .string s.f1.f1, .int .u8 s.f1.f2, .int .i64 s.f1.f3, .int .i64 s.f1.f4, .int .i64 s.f1.f5, .int .i64 s.f1.f6, .string s.f1.f7, .int .i64 s.f2, .int .i64 s.f3, .string s.f4, .string s.f5, .string s.f6] 25))
  have HB0 := Aside0.mk (below_alloc HB0.out (.cells #[.string n.f0, .string n.f1, .int .u8 n.f2, .int .i64 n.f3, .int .i64 n.f4, .int .i64 n.f5, .int .i64 n.f6, .string n.f7] 23))
  have HS0 := Aside0.mk (blk_alloc HS0.out (.cells #[.string n.f0, .string n.f1, .int .u8 n.f2, .int .i64 n.f3, .int .i64 n.f4, .int .i64 n.f5, .int .i64 n.f6, .string n.f7] 23))
  have HN0 := Aside0.mk (heap_alloc_new (w.alloc (.cells #[.int .i64 s.f0, .string s.f1.f0, .string s.f1.f1, .int .u8 s.f1.f2, .int .i64 s.f1.f3, .int .i64 s.f1.f4, .int .i64 s.f1.f5, .int .i64 s.f1.f6, .string s.f1.f7, .int .i64 s.f2, .int .i64 s.f3, .string s.f4, .string s.f5, .string s.f6] 25)) (.cells #[.string n.f0, .string n.f1, .int .u8 n.f2, .int .i64 n.f3, .int .i64 n.f4, .int .i64 n.f5, .int .i64 n.f6, .string n.f7] 23))
  rw [show (w.alloc (.cells #[.int .i64 s.f0, .string s.f1.f0, .string s.f1.f1, .int .u8 s.f1.f2, .int .i64 s.f1.f3, .int .i64 s.f1.f4, .int .i64 s.f1.f5, .int .i64 s.f1.f6, .string s.f1.f7, .int .i64 s.f2, .int .i64 s.f3, .string s.f4, .string s.f5, .string s.f6] 25)).heap.size = w.heap.size + 1 by simp] at HN0
  obtain ⟨z0_0, z1_0, z2_0, z3_0, z4_0, z5_0, z6_0, z7_0, z8_0, z9_0, z10_0, z11_0, z12_0, z13_0⟩ := cells14 HS0.out
  obtain ⟨n0_0, n1_0, n2_0, n3_0, n4_0, n5_0, n6_0, n7_0⟩ := cells8 HN0.out
  cases hf : fewS s with
  | false =>
    rw [hf] at hfew
    clear hf
    as_aux_lemma =>
      go_enter Try.func8, Try.ntmps8
      go_wp2_with (first | (go_at_call 10; refine (hup _).mono ?_; rintro e_ w1 ⟨rfl, hb_⟩; have HB1 := Aside0.mk (below_step HB0.out hb_); have HS1 := Aside0.mk (blk_below HS0.out hb_); have HN1 := Aside0.mk (blk_below HN0.out hb_); clear hb_ HS0 HN0 z0_0 z1_0 z2_0 z3_0 z4_0 z5_0 z6_0 z7_0 z8_0 z9_0 z10_0 z11_0 z12_0 z13_0 n0_0 n1_0 n2_0 n3_0 n4_0 n5_0 n6_0 n7_0; obtain ⟨z0_1, z1_1, z2_1, z3_1, z4_1, z5_1, z6_1, z7_1, z8_1, z9_1, z10_1, z11_1, z12_1, z13_1⟩ := cells14 HS1.out; obtain ⟨n0_1, n1_1, n2_1, n3_1, n4_1, n5_1, n6_1, n7_1⟩ := cells8 HN1.out) | (go_at_call 11; refine (hfew _).mono ?_; rintro e_ w2 ⟨rfl, hb_⟩; have HB2 := Aside0.mk (below_step HB1.out hb_); have HS2 := Aside0.mk (blk_below HS1.out hb_); have HN2 := Aside0.mk (blk_below HN1.out hb_); clear hb_ HS1 HN1 z0_1 z1_1 z2_1 z3_1 z4_1 z5_1 z6_1 z7_1 z8_1 z9_1 z10_1 z11_1 z12_1 z13_1 n0_1 n1_1 n2_1 n3_1 n4_1 n5_1 n6_1 n7_1; obtain ⟨z0_2, z1_2, z2_2, z3_2, z4_2, z5_2, z6_2, z7_2, z8_2, z9_2, z10_2, z11_2, z12_2, z13_2⟩ := cells14 HS2.out; obtain ⟨n0_2, n1_2, n2_2, n3_2, n4_2, n5_2, n6_2, n7_2⟩ := cells8 HN2.out) | (go_at_call 20; refine (hf5 _).mono ?_; rintro e_ w3 ⟨rfl, hb_⟩; have HB3 := Aside0.mk (below_step HB2.out hb_); have HS3 := Aside0.mk (blk_below HS2.out hb_); have HN3 := Aside0.mk (blk_below HN2.out hb_); clear hb_ HS2 HN2 z0_2 z1_2 z2_2 z3_2 z4_2 z5_2 z6_2 z7_2 z8_2 z9_2 z10_2 z11_2 z12_2 z13_2 n0_2 n1_2 n2_2 n3_2 n4_2 n5_2 n6_2 n7_2; obtain ⟨z0_3, z1_3, z2_3, z3_3, z4_3, z5_3, z6_3, z7_3, z8_3, z9_3, z10_3, z11_3, z12_3, z13_3⟩ := cells14 HS3.out; obtain ⟨n0_3, n1_3, n2_3, n3_3, n4_3, n5_3, n6_3, n7_3⟩ := cells8 HN3.out))
      go_ret
      exact ⟨rfl, HB3.out⟩
  | true =>
  rw [hf] at hfew
  have hok := few_st hf
  clear hf
  cases hn : okN n with
  | false =>
    rw [hn] at hf5
    clear hn
    as_aux_lemma =>
      go_enter Try.func8, Try.ntmps8
      go_wp2_with (first | (go_at_call 10; refine (hup _).mono ?_; rintro e_ w1 ⟨rfl, hb_⟩; have HB1 := Aside0.mk (below_step HB0.out hb_); have HS1 := Aside0.mk (blk_below HS0.out hb_); have HN1 := Aside0.mk (blk_below HN0.out hb_); clear hb_ HS0 HN0 z0_0 z1_0 z2_0 z3_0 z4_0 z5_0 z6_0 z7_0 z8_0 z9_0 z10_0 z11_0 z12_0 z13_0 n0_0 n1_0 n2_0 n3_0 n4_0 n5_0 n6_0 n7_0; obtain ⟨z0_1, z1_1, z2_1, z3_1, z4_1, z5_1, z6_1, z7_1, z8_1, z9_1, z10_1, z11_1, z12_1, z13_1⟩ := cells14 HS1.out; obtain ⟨n0_1, n1_1, n2_1, n3_1, n4_1, n5_1, n6_1, n7_1⟩ := cells8 HN1.out) | (go_at_call 11; refine (hfew _).mono ?_; rintro e_ w2 ⟨rfl, hb_⟩; have HB2 := Aside0.mk (below_step HB1.out hb_); have HS2 := Aside0.mk (blk_below HS1.out hb_); have HN2 := Aside0.mk (blk_below HN1.out hb_); clear hb_ HS1 HN1 z0_1 z1_1 z2_1 z3_1 z4_1 z5_1 z6_1 z7_1 z8_1 z9_1 z10_1 z11_1 z12_1 z13_1 n0_1 n1_1 n2_1 n3_1 n4_1 n5_1 n6_1 n7_1; obtain ⟨z0_2, z1_2, z2_2, z3_2, z4_2, z5_2, z6_2, z7_2, z8_2, z9_2, z10_2, z11_2, z12_2, z13_2⟩ := cells14 HS2.out; obtain ⟨n0_2, n1_2, n2_2, n3_2, n4_2, n5_2, n6_2, n7_2⟩ := cells8 HN2.out) | (go_at_call 20; refine (hf5 _).mono ?_; rintro e_ w3 ⟨rfl, hb_⟩; have HB3 := Aside0.mk (below_step HB2.out hb_); have HS3 := Aside0.mk (blk_below HS2.out hb_); have HN3 := Aside0.mk (blk_below HN2.out hb_); clear hb_ HS2 HN2 z0_2 z1_2 z2_2 z3_2 z4_2 z5_2 z6_2 z7_2 z8_2 z9_2 z10_2 z11_2 z12_2 z13_2 n0_2 n1_2 n2_2 n3_2 n4_2 n5_2 n6_2 n7_2; obtain ⟨z0_3, z1_3, z2_3, z3_3, z4_3, z5_3, z6_3, z7_3, z8_3, z9_3, z10_3, z11_3, z12_3, z13_3⟩ := cells14 HS3.out; obtain ⟨n0_3, n1_3, n2_3, n3_3, n4_3, n5_3, n6_3, n7_3⟩ := cells8 HN3.out))
      go_ret
      exact ⟨rfl, HB3.out⟩
  | true =>
  rw [hn] at hf5
  obtain ⟨g0, g1, -⟩ := okN_iff.1 hn
  clear hn
  by_cases h0 : s.f0 = 0
  case neg =>
    have b3 : (s.f0 != 0) = true := by simp only [bne, beq_eq_false_iff_ne.2 h0]; rfl
    clear h0
    as_aux_lemma =>
      go_enter Try.func8, Try.ntmps8
      go_wp2_with (first | (go_at_call 10; refine (hup _).mono ?_; rintro e_ w1 ⟨rfl, hb_⟩; have HB1 := Aside0.mk (below_step HB0.out hb_); have HS1 := Aside0.mk (blk_below HS0.out hb_); have HN1 := Aside0.mk (blk_below HN0.out hb_); clear hb_ HS0 HN0 z0_0 z1_0 z2_0 z3_0 z4_0 z5_0 z6_0 z7_0 z8_0 z9_0 z10_0 z11_0 z12_0 z13_0 n0_0 n1_0 n2_0 n3_0 n4_0 n5_0 n6_0 n7_0; obtain ⟨z0_1, z1_1, z2_1, z3_1, z4_1, z5_1, z6_1, z7_1, z8_1, z9_1, z10_1, z11_1, z12_1, z13_1⟩ := cells14 HS1.out; obtain ⟨n0_1, n1_1, n2_1, n3_1, n4_1, n5_1, n6_1, n7_1⟩ := cells8 HN1.out) | (go_at_call 11; refine (hfew _).mono ?_; rintro e_ w2 ⟨rfl, hb_⟩; have HB2 := Aside0.mk (below_step HB1.out hb_); have HS2 := Aside0.mk (blk_below HS1.out hb_); have HN2 := Aside0.mk (blk_below HN1.out hb_); clear hb_ HS1 HN1 z0_1 z1_1 z2_1 z3_1 z4_1 z5_1 z6_1 z7_1 z8_1 z9_1 z10_1 z11_1 z12_1 z13_1 n0_1 n1_1 n2_1 n3_1 n4_1 n5_1 n6_1 n7_1; obtain ⟨z0_2, z1_2, z2_2, z3_2, z4_2, z5_2, z6_2, z7_2, z8_2, z9_2, z10_2, z11_2, z12_2, z13_2⟩ := cells14 HS2.out; obtain ⟨n0_2, n1_2, n2_2, n3_2, n4_2, n5_2, n6_2, n7_2⟩ := cells8 HN2.out) | (go_at_call 20; refine (hf5 _).mono ?_; rintro e_ w3 ⟨rfl, hb_⟩; have HB3 := Aside0.mk (below_step HB2.out hb_); have HS3 := Aside0.mk (blk_below HS2.out hb_); have HN3 := Aside0.mk (blk_below HN2.out hb_); clear hb_ HS2 HN2 z0_2 z1_2 z2_2 z3_2 z4_2 z5_2 z6_2 z7_2 z8_2 z9_2 z10_2 z11_2 z12_2 z13_2 n0_2 n1_2 n2_2 n3_2 n4_2 n5_2 n6_2 n7_2; obtain ⟨z0_3, z1_3, z2_3, z3_3, z4_3, z5_3, z6_3, z7_3, z8_3, z9_3, z10_3, z11_3, z12_3, z13_3⟩ := cells14 HS3.out; obtain ⟨n0_3, n1_3, n2_3, n3_3, n4_3, n5_3, n6_3, n7_3⟩ := cells8 HN3.out))
      go_ret
      exact ⟨rfl, HB3.out⟩
  have b3 : (s.f0 != 0) = false := by rw [h0]; rfl
  cases hnm : noT s.f5 with
  | true =>
    have b4 : (s.f5.toList == ([] : List UInt8)) = true := hnm
    clear hnm h0
    as_aux_lemma =>
      go_enter Try.func8, Try.ntmps8
      go_wp2_with (first | (go_at_call 10; refine (hup _).mono ?_; rintro e_ w1 ⟨rfl, hb_⟩; have HB1 := Aside0.mk (below_step HB0.out hb_); have HS1 := Aside0.mk (blk_below HS0.out hb_); have HN1 := Aside0.mk (blk_below HN0.out hb_); clear hb_ HS0 HN0 z0_0 z1_0 z2_0 z3_0 z4_0 z5_0 z6_0 z7_0 z8_0 z9_0 z10_0 z11_0 z12_0 z13_0 n0_0 n1_0 n2_0 n3_0 n4_0 n5_0 n6_0 n7_0; obtain ⟨z0_1, z1_1, z2_1, z3_1, z4_1, z5_1, z6_1, z7_1, z8_1, z9_1, z10_1, z11_1, z12_1, z13_1⟩ := cells14 HS1.out; obtain ⟨n0_1, n1_1, n2_1, n3_1, n4_1, n5_1, n6_1, n7_1⟩ := cells8 HN1.out) | (go_at_call 11; refine (hfew _).mono ?_; rintro e_ w2 ⟨rfl, hb_⟩; have HB2 := Aside0.mk (below_step HB1.out hb_); have HS2 := Aside0.mk (blk_below HS1.out hb_); have HN2 := Aside0.mk (blk_below HN1.out hb_); clear hb_ HS1 HN1 z0_1 z1_1 z2_1 z3_1 z4_1 z5_1 z6_1 z7_1 z8_1 z9_1 z10_1 z11_1 z12_1 z13_1 n0_1 n1_1 n2_1 n3_1 n4_1 n5_1 n6_1 n7_1; obtain ⟨z0_2, z1_2, z2_2, z3_2, z4_2, z5_2, z6_2, z7_2, z8_2, z9_2, z10_2, z11_2, z12_2, z13_2⟩ := cells14 HS2.out; obtain ⟨n0_2, n1_2, n2_2, n3_2, n4_2, n5_2, n6_2, n7_2⟩ := cells8 HN2.out) | (go_at_call 20; refine (hf5 _).mono ?_; rintro e_ w3 ⟨rfl, hb_⟩; have HB3 := Aside0.mk (below_step HB2.out hb_); have HS3 := Aside0.mk (blk_below HS2.out hb_); have HN3 := Aside0.mk (blk_below HN2.out hb_); clear hb_ HS2 HN2 z0_2 z1_2 z2_2 z3_2 z4_2 z5_2 z6_2 z7_2 z8_2 z9_2 z10_2 z11_2 z12_2 z13_2 n0_2 n1_2 n2_2 n3_2 n4_2 n5_2 n6_2 n7_2; obtain ⟨z0_3, z1_3, z2_3, z3_3, z4_3, z5_3, z6_3, z7_3, z8_3, z9_3, z10_3, z11_3, z12_3, z13_3⟩ := cells14 HS3.out; obtain ⟨n0_3, n1_3, n2_3, n3_3, n4_3, n5_3, n6_3, n7_3⟩ := cells8 HN3.out))
      go_ret
      exact ⟨rfl, HB3.out⟩
  | false =>
  have b4 : (s.f5.toList == ([] : List UInt8)) = false := hnm
  have hms := fun W => parse_May.at_ s (Nat.le_trans hok.2.2.1 (by decide)) (Nat.le_trans hok.2.2.2 (by decide)) W
  cases hm : mayS s with
  | false =>
    rw [hm] at hms
    clear hm hnm h0
    as_aux_lemma =>
      go_enter Try.func8, Try.ntmps8
      go_wp2_with (first | (go_at_call 10; refine (hup _).mono ?_; rintro e_ w1 ⟨rfl, hb_⟩; have HB1 := Aside0.mk (below_step HB0.out hb_); have HS1 := Aside0.mk (blk_below HS0.out hb_); have HN1 := Aside0.mk (blk_below HN0.out hb_); clear hb_ HS0 HN0 z0_0 z1_0 z2_0 z3_0 z4_0 z5_0 z6_0 z7_0 z8_0 z9_0 z10_0 z11_0 z12_0 z13_0 n0_0 n1_0 n2_0 n3_0 n4_0 n5_0 n6_0 n7_0; obtain ⟨z0_1, z1_1, z2_1, z3_1, z4_1, z5_1, z6_1, z7_1, z8_1, z9_1, z10_1, z11_1, z12_1, z13_1⟩ := cells14 HS1.out; obtain ⟨n0_1, n1_1, n2_1, n3_1, n4_1, n5_1, n6_1, n7_1⟩ := cells8 HN1.out) | (go_at_call 11; refine (hfew _).mono ?_; rintro e_ w2 ⟨rfl, hb_⟩; have HB2 := Aside0.mk (below_step HB1.out hb_); have HS2 := Aside0.mk (blk_below HS1.out hb_); have HN2 := Aside0.mk (blk_below HN1.out hb_); clear hb_ HS1 HN1 z0_1 z1_1 z2_1 z3_1 z4_1 z5_1 z6_1 z7_1 z8_1 z9_1 z10_1 z11_1 z12_1 z13_1 n0_1 n1_1 n2_1 n3_1 n4_1 n5_1 n6_1 n7_1; obtain ⟨z0_2, z1_2, z2_2, z3_2, z4_2, z5_2, z6_2, z7_2, z8_2, z9_2, z10_2, z11_2, z12_2, z13_2⟩ := cells14 HS2.out; obtain ⟨n0_2, n1_2, n2_2, n3_2, n4_2, n5_2, n6_2, n7_2⟩ := cells8 HN2.out) | (go_at_call 20; refine (hf5 _).mono ?_; rintro e_ w3 ⟨rfl, hb_⟩; have HB3 := Aside0.mk (below_step HB2.out hb_); have HS3 := Aside0.mk (blk_below HS2.out hb_); have HN3 := Aside0.mk (blk_below HN2.out hb_); clear hb_ HS2 HN2 z0_2 z1_2 z2_2 z3_2 z4_2 z5_2 z6_2 z7_2 z8_2 z9_2 z10_2 z11_2 z12_2 z13_2 n0_2 n1_2 n2_2 n3_2 n4_2 n5_2 n6_2 n7_2; obtain ⟨z0_3, z1_3, z2_3, z3_3, z4_3, z5_3, z6_3, z7_3, z8_3, z9_3, z10_3, z11_3, z12_3, z13_3⟩ := cells14 HS3.out; obtain ⟨n0_3, n1_3, n2_3, n3_3, n4_3, n5_3, n6_3, n7_3⟩ := cells8 HN3.out) | (go_at_call 13; (with_reducible refine (hms _).mono ?_); rintro e_ w4 ⟨rfl, hb_⟩; have HB4 := Aside0.mk (below_step HB3.out hb_); have HS4 := Aside0.mk (blk_below HS3.out hb_); have HN4 := Aside0.mk (blk_below HN3.out hb_); clear hb_ HS3 HN3 z0_3 z1_3 z2_3 z3_3 z4_3 z5_3 z6_3 z7_3 z8_3 z9_3 z10_3 z11_3 z12_3 z13_3 n0_3 n1_3 n2_3 n3_3 n4_3 n5_3 n6_3 n7_3; obtain ⟨z0_4, z1_4, z2_4, z3_4, z4_4, z5_4, z6_4, z7_4, z8_4, z9_4, z10_4, z11_4, z12_4, z13_4⟩ := cells14 HS4.out; obtain ⟨n0_4, n1_4, n2_4, n3_4, n4_4, n5_4, n6_4, n7_4⟩ := cells8 HN4.out))
      go_ret
      exact ⟨rfl, HB4.out⟩
  | true =>
  rw [hm] at hms
  cases ho : oneB n with
  | false =>
    have hput := fun W => put9_no (n := n) (by omega) (by omega) ho W
    clear ho hm hnm h0
    as_aux_lemma =>
      go_enter Try.func8, Try.ntmps8
      go_wp2_with (first | (first | (go_at_call 10; refine (hup _).mono ?_; rintro e_ w1 ⟨rfl, hb_⟩; have HB1 := Aside0.mk (below_step HB0.out hb_); have HS1 := Aside0.mk (blk_below HS0.out hb_); have HN1 := Aside0.mk (blk_below HN0.out hb_); clear hb_ HS0 HN0 z0_0 z1_0 z2_0 z3_0 z4_0 z5_0 z6_0 z7_0 z8_0 z9_0 z10_0 z11_0 z12_0 z13_0 n0_0 n1_0 n2_0 n3_0 n4_0 n5_0 n6_0 n7_0; obtain ⟨z0_1, z1_1, z2_1, z3_1, z4_1, z5_1, z6_1, z7_1, z8_1, z9_1, z10_1, z11_1, z12_1, z13_1⟩ := cells14 HS1.out; obtain ⟨n0_1, n1_1, n2_1, n3_1, n4_1, n5_1, n6_1, n7_1⟩ := cells8 HN1.out) | (go_at_call 11; refine (hfew _).mono ?_; rintro e_ w2 ⟨rfl, hb_⟩; have HB2 := Aside0.mk (below_step HB1.out hb_); have HS2 := Aside0.mk (blk_below HS1.out hb_); have HN2 := Aside0.mk (blk_below HN1.out hb_); clear hb_ HS1 HN1 z0_1 z1_1 z2_1 z3_1 z4_1 z5_1 z6_1 z7_1 z8_1 z9_1 z10_1 z11_1 z12_1 z13_1 n0_1 n1_1 n2_1 n3_1 n4_1 n5_1 n6_1 n7_1; obtain ⟨z0_2, z1_2, z2_2, z3_2, z4_2, z5_2, z6_2, z7_2, z8_2, z9_2, z10_2, z11_2, z12_2, z13_2⟩ := cells14 HS2.out; obtain ⟨n0_2, n1_2, n2_2, n3_2, n4_2, n5_2, n6_2, n7_2⟩ := cells8 HN2.out) | (go_at_call 20; refine (hf5 _).mono ?_; rintro e_ w3 ⟨rfl, hb_⟩; have HB3 := Aside0.mk (below_step HB2.out hb_); have HS3 := Aside0.mk (blk_below HS2.out hb_); have HN3 := Aside0.mk (blk_below HN2.out hb_); clear hb_ HS2 HN2 z0_2 z1_2 z2_2 z3_2 z4_2 z5_2 z6_2 z7_2 z8_2 z9_2 z10_2 z11_2 z12_2 z13_2 n0_2 n1_2 n2_2 n3_2 n4_2 n5_2 n6_2 n7_2; obtain ⟨z0_3, z1_3, z2_3, z3_3, z4_3, z5_3, z6_3, z7_3, z8_3, z9_3, z10_3, z11_3, z12_3, z13_3⟩ := cells14 HS3.out; obtain ⟨n0_3, n1_3, n2_3, n3_3, n4_3, n5_3, n6_3, n7_3⟩ := cells8 HN3.out) | (go_at_call 13; (with_reducible refine (hms _).mono ?_); rintro e_ w4 ⟨rfl, hb_⟩; have HB4 := Aside0.mk (below_step HB3.out hb_); have HS4 := Aside0.mk (blk_below HS3.out hb_); have HN4 := Aside0.mk (blk_below HN3.out hb_); clear hb_ HS3 HN3 z0_3 z1_3 z2_3 z3_3 z4_3 z5_3 z6_3 z7_3 z8_3 z9_3 z10_3 z11_3 z12_3 z13_3 n0_3 n1_3 n2_3 n3_3 n4_3 n5_3 n6_3 n7_3; obtain ⟨z0_4, z1_4, z2_4, z3_4, z4_4, z5_4, z6_4, z7_4, z8_4, z9_4, z10_4, z11_4, z12_4, z13_4⟩ := cells14 HS4.out; obtain ⟨n0_4, n1_4, n2_4, n3_4, n4_4, n5_4, n6_4, n7_4⟩ := cells8 HN4.out)) | (go_at_call 21; refine (hput _).mono ?_; rintro e_ w5 ⟨A5, c5, rfl, hC5, hl5, hb_⟩; have HB5 := Aside0.mk (below_step HB4.out hb_); have HS5 := Aside0.mk (blk_below HS4.out hb_); have HN5 := Aside0.mk (blk_below HN4.out hb_); have HC5 := hC5; have HL5 := hl5; clear hC5 hl5; clear hb_ HS4 HN4 z0_4 z1_4 z2_4 z3_4 z4_4 z5_4 z6_4 z7_4 z8_4 z9_4 z10_4 z11_4 z12_4 z13_4 n0_4 n1_4 n2_4 n3_4 n4_4 n5_4 n6_4 n7_4; obtain ⟨z0_5, z1_5, z2_5, z3_5, z4_5, z5_5, z6_5, z7_5, z8_5, z9_5, z10_5, z11_5, z12_5, z13_5⟩ := cells14 HS5.out; obtain ⟨n0_5, n1_5, n2_5, n3_5, n4_5, n5_5, n6_5, n7_5⟩ := cells8 HN5.out))
      go_ret
      exact ⟨rfl, HB5.out⟩
  | true =>
  have hput := fun W => put9_yes ho W
  have hl0 := entryB_length (oneB_facts ho)
  obtain ⟨L, hL⟩ : ∃ L, entryB n = L := ⟨_, rfl⟩
  obtain ⟨nL, hnL⟩ : ∃ k, L.length = k := ⟨_, rfl⟩
  rw [hL] at hput hl0
  rw [hnL] at hput hl0
  have b6 : ((nL : Int) == 0) = false := beq_eq_false_iff_ne.2 (by omega)
  have b6n : (nL == 0) = false := beq_eq_false_iff_ne.2 (by omega)
  by_cases h256 : n.f0.size ≤ 256
  · have b7 : decide ((n.f0.size : Int) ≤ 256) = true := decide_eq_true (by omega)
    have b7n : decide (n.f0.size ≤ 256) = true := decide_eq_true h256
    clear ho hm hnm h0 hl0 hL h256
    as_aux_lemma =>
      go_enter Try.func8, Try.ntmps8
      go_wp2_with (first | (first | (go_at_call 10; refine (hup _).mono ?_; rintro e_ w1 ⟨rfl, hb_⟩; have HB1 := Aside0.mk (below_step HB0.out hb_); have HS1 := Aside0.mk (blk_below HS0.out hb_); have HN1 := Aside0.mk (blk_below HN0.out hb_); clear hb_ HS0 HN0 z0_0 z1_0 z2_0 z3_0 z4_0 z5_0 z6_0 z7_0 z8_0 z9_0 z10_0 z11_0 z12_0 z13_0 n0_0 n1_0 n2_0 n3_0 n4_0 n5_0 n6_0 n7_0; obtain ⟨z0_1, z1_1, z2_1, z3_1, z4_1, z5_1, z6_1, z7_1, z8_1, z9_1, z10_1, z11_1, z12_1, z13_1⟩ := cells14 HS1.out; obtain ⟨n0_1, n1_1, n2_1, n3_1, n4_1, n5_1, n6_1, n7_1⟩ := cells8 HN1.out) | (go_at_call 11; refine (hfew _).mono ?_; rintro e_ w2 ⟨rfl, hb_⟩; have HB2 := Aside0.mk (below_step HB1.out hb_); have HS2 := Aside0.mk (blk_below HS1.out hb_); have HN2 := Aside0.mk (blk_below HN1.out hb_); clear hb_ HS1 HN1 z0_1 z1_1 z2_1 z3_1 z4_1 z5_1 z6_1 z7_1 z8_1 z9_1 z10_1 z11_1 z12_1 z13_1 n0_1 n1_1 n2_1 n3_1 n4_1 n5_1 n6_1 n7_1; obtain ⟨z0_2, z1_2, z2_2, z3_2, z4_2, z5_2, z6_2, z7_2, z8_2, z9_2, z10_2, z11_2, z12_2, z13_2⟩ := cells14 HS2.out; obtain ⟨n0_2, n1_2, n2_2, n3_2, n4_2, n5_2, n6_2, n7_2⟩ := cells8 HN2.out) | (go_at_call 20; refine (hf5 _).mono ?_; rintro e_ w3 ⟨rfl, hb_⟩; have HB3 := Aside0.mk (below_step HB2.out hb_); have HS3 := Aside0.mk (blk_below HS2.out hb_); have HN3 := Aside0.mk (blk_below HN2.out hb_); clear hb_ HS2 HN2 z0_2 z1_2 z2_2 z3_2 z4_2 z5_2 z6_2 z7_2 z8_2 z9_2 z10_2 z11_2 z12_2 z13_2 n0_2 n1_2 n2_2 n3_2 n4_2 n5_2 n6_2 n7_2; obtain ⟨z0_3, z1_3, z2_3, z3_3, z4_3, z5_3, z6_3, z7_3, z8_3, z9_3, z10_3, z11_3, z12_3, z13_3⟩ := cells14 HS3.out; obtain ⟨n0_3, n1_3, n2_3, n3_3, n4_3, n5_3, n6_3, n7_3⟩ := cells8 HN3.out) | (go_at_call 13; (with_reducible refine (hms _).mono ?_); rintro e_ w4 ⟨rfl, hb_⟩; have HB4 := Aside0.mk (below_step HB3.out hb_); have HS4 := Aside0.mk (blk_below HS3.out hb_); have HN4 := Aside0.mk (blk_below HN3.out hb_); clear hb_ HS3 HN3 z0_3 z1_3 z2_3 z3_3 z4_3 z5_3 z6_3 z7_3 z8_3 z9_3 z10_3 z11_3 z12_3 z13_3 n0_3 n1_3 n2_3 n3_3 n4_3 n5_3 n6_3 n7_3; obtain ⟨z0_4, z1_4, z2_4, z3_4, z4_4, z5_4, z6_4, z7_4, z8_4, z9_4, z10_4, z11_4, z12_4, z13_4⟩ := cells14 HS4.out; obtain ⟨n0_4, n1_4, n2_4, n3_4, n4_4, n5_4, n6_4, n7_4⟩ := cells8 HN4.out)) | (go_at_call 21; refine (hput _).mono ?_; rintro e_ w5 ⟨A5, c5, rfl, hC5, hl5, hb_⟩; have HB5 := Aside0.mk (below_step HB4.out hb_); have HS5 := Aside0.mk (blk_below HS4.out hb_); have HN5 := Aside0.mk (blk_below HN4.out hb_); have HC5 := hC5; have HL5 := hl5; clear hC5 hl5; clear hb_ HS4 HN4 z0_4 z1_4 z2_4 z3_4 z4_4 z5_4 z6_4 z7_4 z8_4 z9_4 z10_4 z11_4 z12_4 z13_4 n0_4 n1_4 n2_4 n3_4 n4_4 n5_4 n6_4 n7_4; obtain ⟨z0_5, z1_5, z2_5, z3_5, z4_5, z5_5, z6_5, z7_5, z8_5, z9_5, z10_5, z11_5, z12_5, z13_5⟩ := cells14 HS5.out; obtain ⟨n0_5, n1_5, n2_5, n3_5, n4_5, n5_5, n6_5, n7_5⟩ := cells8 HN5.out))
      go_ret
      exact ⟨rfl, HB5.out⟩
  have b7 : decide ((n.f0.size : Int) ≤ 256) = false := decide_eq_false (by omega)
  have b7n : decide (n.f0.size ≤ 256) = false := decide_eq_false h256
  by_cases h100 : 100 < n.f1.size
  · have b8 : decide ((n.f1.size : Int) > 100) = true := decide_eq_true (by omega)
    have b8m : decide ((100 : Int) < (n.f1.size : Int)) = true := decide_eq_true (by omega)
    have b8n : decide (100 < n.f1.size) = true := decide_eq_true h100
    clear ho hm hnm h0 hl0 hL h256 h100
    as_aux_lemma =>
      go_enter Try.func8, Try.ntmps8
      go_wp2_with (first | (first | (go_at_call 10; refine (hup _).mono ?_; rintro e_ w1 ⟨rfl, hb_⟩; have HB1 := Aside0.mk (below_step HB0.out hb_); have HS1 := Aside0.mk (blk_below HS0.out hb_); have HN1 := Aside0.mk (blk_below HN0.out hb_); clear hb_ HS0 HN0 z0_0 z1_0 z2_0 z3_0 z4_0 z5_0 z6_0 z7_0 z8_0 z9_0 z10_0 z11_0 z12_0 z13_0 n0_0 n1_0 n2_0 n3_0 n4_0 n5_0 n6_0 n7_0; obtain ⟨z0_1, z1_1, z2_1, z3_1, z4_1, z5_1, z6_1, z7_1, z8_1, z9_1, z10_1, z11_1, z12_1, z13_1⟩ := cells14 HS1.out; obtain ⟨n0_1, n1_1, n2_1, n3_1, n4_1, n5_1, n6_1, n7_1⟩ := cells8 HN1.out) | (go_at_call 11; refine (hfew _).mono ?_; rintro e_ w2 ⟨rfl, hb_⟩; have HB2 := Aside0.mk (below_step HB1.out hb_); have HS2 := Aside0.mk (blk_below HS1.out hb_); have HN2 := Aside0.mk (blk_below HN1.out hb_); clear hb_ HS1 HN1 z0_1 z1_1 z2_1 z3_1 z4_1 z5_1 z6_1 z7_1 z8_1 z9_1 z10_1 z11_1 z12_1 z13_1 n0_1 n1_1 n2_1 n3_1 n4_1 n5_1 n6_1 n7_1; obtain ⟨z0_2, z1_2, z2_2, z3_2, z4_2, z5_2, z6_2, z7_2, z8_2, z9_2, z10_2, z11_2, z12_2, z13_2⟩ := cells14 HS2.out; obtain ⟨n0_2, n1_2, n2_2, n3_2, n4_2, n5_2, n6_2, n7_2⟩ := cells8 HN2.out) | (go_at_call 20; refine (hf5 _).mono ?_; rintro e_ w3 ⟨rfl, hb_⟩; have HB3 := Aside0.mk (below_step HB2.out hb_); have HS3 := Aside0.mk (blk_below HS2.out hb_); have HN3 := Aside0.mk (blk_below HN2.out hb_); clear hb_ HS2 HN2 z0_2 z1_2 z2_2 z3_2 z4_2 z5_2 z6_2 z7_2 z8_2 z9_2 z10_2 z11_2 z12_2 z13_2 n0_2 n1_2 n2_2 n3_2 n4_2 n5_2 n6_2 n7_2; obtain ⟨z0_3, z1_3, z2_3, z3_3, z4_3, z5_3, z6_3, z7_3, z8_3, z9_3, z10_3, z11_3, z12_3, z13_3⟩ := cells14 HS3.out; obtain ⟨n0_3, n1_3, n2_3, n3_3, n4_3, n5_3, n6_3, n7_3⟩ := cells8 HN3.out) | (go_at_call 13; (with_reducible refine (hms _).mono ?_); rintro e_ w4 ⟨rfl, hb_⟩; have HB4 := Aside0.mk (below_step HB3.out hb_); have HS4 := Aside0.mk (blk_below HS3.out hb_); have HN4 := Aside0.mk (blk_below HN3.out hb_); clear hb_ HS3 HN3 z0_3 z1_3 z2_3 z3_3 z4_3 z5_3 z6_3 z7_3 z8_3 z9_3 z10_3 z11_3 z12_3 z13_3 n0_3 n1_3 n2_3 n3_3 n4_3 n5_3 n6_3 n7_3; obtain ⟨z0_4, z1_4, z2_4, z3_4, z4_4, z5_4, z6_4, z7_4, z8_4, z9_4, z10_4, z11_4, z12_4, z13_4⟩ := cells14 HS4.out; obtain ⟨n0_4, n1_4, n2_4, n3_4, n4_4, n5_4, n6_4, n7_4⟩ := cells8 HN4.out)) | (go_at_call 21; refine (hput _).mono ?_; rintro e_ w5 ⟨A5, c5, rfl, hC5, hl5, hb_⟩; have HB5 := Aside0.mk (below_step HB4.out hb_); have HS5 := Aside0.mk (blk_below HS4.out hb_); have HN5 := Aside0.mk (blk_below HN4.out hb_); have HC5 := hC5; have HL5 := hl5; clear hC5 hl5; clear hb_ HS4 HN4 z0_4 z1_4 z2_4 z3_4 z4_4 z5_4 z6_4 z7_4 z8_4 z9_4 z10_4 z11_4 z12_4 z13_4 n0_4 n1_4 n2_4 n3_4 n4_4 n5_4 n6_4 n7_4; obtain ⟨z0_5, z1_5, z2_5, z3_5, z4_5, z5_5, z6_5, z7_5, z8_5, z9_5, z10_5, z11_5, z12_5, z13_5⟩ := cells14 HS5.out; obtain ⟨n0_5, n1_5, n2_5, n3_5, n4_5, n5_5, n6_5, n7_5⟩ := cells8 HN5.out))
      go_ret
      exact ⟨rfl, HB5.out⟩
  have b8 : decide ((n.f1.size : Int) > 100) = false := decide_eq_false (by omega)
  have b8m : decide ((100 : Int) < (n.f1.size : Int)) = false := decide_eq_false (by omega)
  have b8n : decide (100 < n.f1.size) = false := decide_eq_false h100
  obtain ⟨x, r, hd, e1, e2, e3⟩ := types_first ho (by omega) h100
  have hxby := entryB_by (oneB_facts ho) x (by rw [e1]; exact .head _)
  have hx512 := headGet_512 e2
  have hstep : ∀ (B : Option Addr) (d : Nat) (W : World), 512 ≤ d → Kd.C (Kd.int .u8) W B 512 x → Calls Try.prog 12 #[.agg #[.int .i64 s.f0, .string s.f1.f0, .string s.f1.f1, .int .u8 s.f1.f2, .int .i64 s.f1.f3, .int .i64 s.f1.f4, .int .i64 s.f1.f5, .int .i64 s.f1.f6, .string s.f1.f7, .int .i64 s.f2, .int .i64 s.f3, .string s.f4, .string s.f5, .string s.f6], .slice B 512 d] W fun e w' => ∃ A c, e = .returned (.tuple #[.agg #[.int .i64 s.f0, .string s.f1.f0, .string s.f1.f1, .int .u8 s.f1.f2, .int .i64 s.f1.f3, .int .i64 s.f1.f4, .int .i64 s.f1.f5, .int .i64 s.f1.f6, .string s.f1.f7, .int .i64 s.f2, .int .i64 s.f3, .string s.f4, .string s.f5, .string s.f6], .slice A 0 c, .int .i64 5]) ∧ Aside0 (Kd.R k39 39 w' W.heap.size (fun _ => True) (.slice A 0 c) []) ∧ Below W.heap.size W w' := fun B d W hd hC => by
    have h_ := parse_Step.at_ s ⟨hok.1, hok.2.1, hok.2.2.1, hok.2.2.2⟩ B d x W (by rw [hx512]; exact hC) (by omega) hxby
    rw [types_step hm h0 hnm e2 e3, hx512] at h_
    exact h_
  have hr0 : rdR L 0 = x := by rw [← hL, e1]; rfl
  have HX5 := Aside0.mk hx512
  have HR0 := Aside0.mk hr0
  have HNL := Aside0.mk (show 0 < nL by omega)
  have heq : ∀ (d : Nat) (W : World), (Op.equalIn (d + 3) 25 (.agg #[.int .i64 s.f0, .string s.f1.f0, .string s.f1.f1, .int .u8 s.f1.f2, .int .i64 s.f1.f3, .int .i64 s.f1.f4, .int .i64 s.f1.f5, .int .i64 s.f1.f6, .string s.f1.f7, .int .i64 s.f2, .int .i64 s.f3, .string s.f4, .string s.f5, .string s.f6]) (.agg #[.int .i64 s.f0, .string s.f1.f0, .string s.f1.f1, .int .u8 s.f1.f2, .int .i64 s.f1.f3, .int .i64 s.f1.f4, .int .i64 s.f1.f5, .int .i64 s.f1.f6, .string s.f1.f7, .int .i64 s.f2, .int .i64 s.f3, .string s.f4, .string s.f5, .string s.f6])).run Try.prog W = .ok true W := fun d W => (st_eq d W s s).trans (by rw [eqSt_self])
  have hLl := Aside0.mk hnL
  clear ho hm hnm h0 hl0 h256 h100 e1 e2 e3 hxby hx512 hr0 hL hnL
  go_enter Try.func8, Try.ntmps8
  go_upto_region 9 with (first | (first | (go_at_call 10; refine (hup _).mono ?_; rintro e_ w1 ⟨rfl, hb_⟩; have HB1 := Aside0.mk (below_step HB0.out hb_); have HS1 := Aside0.mk (blk_below HS0.out hb_); have HN1 := Aside0.mk (blk_below HN0.out hb_); clear hb_ HS0 HN0 z0_0 z1_0 z2_0 z3_0 z4_0 z5_0 z6_0 z7_0 z8_0 z9_0 z10_0 z11_0 z12_0 z13_0 n0_0 n1_0 n2_0 n3_0 n4_0 n5_0 n6_0 n7_0; obtain ⟨z0_1, z1_1, z2_1, z3_1, z4_1, z5_1, z6_1, z7_1, z8_1, z9_1, z10_1, z11_1, z12_1, z13_1⟩ := cells14 HS1.out; obtain ⟨n0_1, n1_1, n2_1, n3_1, n4_1, n5_1, n6_1, n7_1⟩ := cells8 HN1.out) | (go_at_call 11; refine (hfew _).mono ?_; rintro e_ w2 ⟨rfl, hb_⟩; have HB2 := Aside0.mk (below_step HB1.out hb_); have HS2 := Aside0.mk (blk_below HS1.out hb_); have HN2 := Aside0.mk (blk_below HN1.out hb_); clear hb_ HS1 HN1 z0_1 z1_1 z2_1 z3_1 z4_1 z5_1 z6_1 z7_1 z8_1 z9_1 z10_1 z11_1 z12_1 z13_1 n0_1 n1_1 n2_1 n3_1 n4_1 n5_1 n6_1 n7_1; obtain ⟨z0_2, z1_2, z2_2, z3_2, z4_2, z5_2, z6_2, z7_2, z8_2, z9_2, z10_2, z11_2, z12_2, z13_2⟩ := cells14 HS2.out; obtain ⟨n0_2, n1_2, n2_2, n3_2, n4_2, n5_2, n6_2, n7_2⟩ := cells8 HN2.out) | (go_at_call 20; refine (hf5 _).mono ?_; rintro e_ w3 ⟨rfl, hb_⟩; have HB3 := Aside0.mk (below_step HB2.out hb_); have HS3 := Aside0.mk (blk_below HS2.out hb_); have HN3 := Aside0.mk (blk_below HN2.out hb_); clear hb_ HS2 HN2 z0_2 z1_2 z2_2 z3_2 z4_2 z5_2 z6_2 z7_2 z8_2 z9_2 z10_2 z11_2 z12_2 z13_2 n0_2 n1_2 n2_2 n3_2 n4_2 n5_2 n6_2 n7_2; obtain ⟨z0_3, z1_3, z2_3, z3_3, z4_3, z5_3, z6_3, z7_3, z8_3, z9_3, z10_3, z11_3, z12_3, z13_3⟩ := cells14 HS3.out; obtain ⟨n0_3, n1_3, n2_3, n3_3, n4_3, n5_3, n6_3, n7_3⟩ := cells8 HN3.out) | (go_at_call 13; (with_reducible refine (hms _).mono ?_); rintro e_ w4 ⟨rfl, hb_⟩; have HB4 := Aside0.mk (below_step HB3.out hb_); have HS4 := Aside0.mk (blk_below HS3.out hb_); have HN4 := Aside0.mk (blk_below HN3.out hb_); clear hb_ HS3 HN3 z0_3 z1_3 z2_3 z3_3 z4_3 z5_3 z6_3 z7_3 z8_3 z9_3 z10_3 z11_3 z12_3 z13_3 n0_3 n1_3 n2_3 n3_3 n4_3 n5_3 n6_3 n7_3; obtain ⟨z0_4, z1_4, z2_4, z3_4, z4_4, z5_4, z6_4, z7_4, z8_4, z9_4, z10_4, z11_4, z12_4, z13_4⟩ := cells14 HS4.out; obtain ⟨n0_4, n1_4, n2_4, n3_4, n4_4, n5_4, n6_4, n7_4⟩ := cells8 HN4.out)) | (go_at_call 21; refine (hput _).mono ?_; rintro e_ w5 ⟨A5, c5, rfl, hC5, hl5, hb_⟩; have HB5 := Aside0.mk (below_step HB4.out hb_); have HS5 := Aside0.mk (blk_below HS4.out hb_); have HN5 := Aside0.mk (blk_below HN4.out hb_); have HC5 := hC5; have HL5 := hl5; clear hC5 hl5; clear hb_ HS4 HN4 z0_4 z1_4 z2_4 z3_4 z4_4 z5_4 z6_4 z7_4 z8_4 z9_4 z10_4 z11_4 z12_4 z13_4 n0_4 n1_4 n2_4 n3_4 n4_4 n5_4 n6_4 n7_4; obtain ⟨z0_5, z1_5, z2_5, z3_5, z4_5, z5_5, z6_5, z7_5, z8_5, z9_5, z10_5, z11_5, z12_5, z13_5⟩ := cells14 HS5.out; obtain ⟨n0_5, n1_5, n2_5, n3_5, n4_5, n5_5, n6_5, n7_5⟩ := cells8 HN5.out))
  obtain ⟨adE, B1, d1, rfl, hrow, hrd, hrC⟩ := at_row HC5.out 0 HNL.out
  have hn0 := HNL.out
  rw [HR0.out] at hrow hrd hrC
  rw [HX5.out] at hrow hrd hrC
  go_cut [10, 11, 12] (fun v10 v11 v12 wc => ∃ (g : Nat) (A6 : Option Addr) (c6 : Nat), v10 = .pointer (some ⟨g, 0, none⟩) ∧ v11 = .slice A6 0 c6 ∧ v12 = .int .i64 5 ∧ Aside0 (Below w.heap.size w wc) ∧ Aside0 (wc.heap[w.heap.size]? = some (.cells #[.int .i64 s.f0, .string s.f1.f0, .string s.f1.f1, .int .u8 s.f1.f2, .int .i64 s.f1.f3, .int .i64 s.f1.f4, .int .i64 s.f1.f5, .int .i64 s.f1.f6, .string s.f1.f7, .int .i64 s.f2, .int .i64 s.f3, .string s.f4, .string s.f5, .string s.f6] 25 (0, 0))) ∧ Aside0 (wc.heap[g]? = some (.cells #[.int .i64 s.f0, .string s.f1.f0, .string s.f1.f1, .int .u8 s.f1.f2, .int .i64 s.f1.f3, .int .i64 s.f1.f4, .int .i64 s.f1.f5, .int .i64 s.f1.f6, .string s.f1.f7, .int .i64 s.f2, .int .i64 s.f3, .string s.f4, .string s.f5, .string s.f6] 25 (0, 0))))
  case first =>
    have HCr := Aside0.mk hrC
    have HR5 := Aside0.mk hrow
    have HRD := Aside0.mk hrd
    have HBd := Aside0.mk (below_drew1 HB5.out)
    have HSd := Aside0.mk (blk_drew HS5.out)
    have HCd := Aside0.mk (Kd.C_drew hrC)
    have HRd := Aside0.mk (pw_cell_below (below_drew1 (Below.refl _ _)) hrow)
    have HC5 := HCr
    clear hrC hrd
    refine start_ (n := 13) (S := fun w' => w'.cell? ⟨w.heap.size, 0, none⟩ = some (.int .i64 s.f0) ∧ w'.cell? ⟨w.heap.size, 1, none⟩ = some (.string s.f1.f0) ∧ w'.cell? ⟨w.heap.size, 2, none⟩ = some (.string s.f1.f1) ∧ w'.cell? ⟨w.heap.size, 3, none⟩ = some (.int .u8 s.f1.f2) ∧ w'.cell? ⟨w.heap.size, 4, none⟩ = some (.int .i64 s.f1.f3) ∧ w'.cell? ⟨w.heap.size, 5, none⟩ = some (.int .i64 s.f1.f4) ∧ w'.cell? ⟨w.heap.size, 6, none⟩ = some (.int .i64 s.f1.f5) ∧ w'.cell? ⟨w.heap.size, 7, none⟩ = some (.int .i64 s.f1.f6) ∧ w'.cell? ⟨w.heap.size, 8, none⟩ = some (.string s.f1.f7) ∧ w'.cell? ⟨w.heap.size, 9, none⟩ = some (.int .i64 s.f2) ∧ w'.cell? ⟨w.heap.size, 10, none⟩ = some (.int .i64 s.f3) ∧ w'.cell? ⟨w.heap.size, 11, none⟩ = some (.string s.f4) ∧ w'.cell? ⟨w.heap.size, 12, none⟩ = some (.string s.f5) ∧ w'.cell? ⟨w.heap.size, 13, none⟩ = some (.string s.f6) ∧ w'.cell? adE = some (.slice B1 512 d1)) (ds := [10]) #[false, false, false, false, false, false, false, false, false, false, false, false, false] (by as_aux_lemma => kernel_rfl) rfl rfl ⟨z0_5, z1_5, z2_5, z3_5, z4_5, z5_5, z6_5, z7_5, z8_5, z9_5, z10_5, z11_5, z12_5, z13_5, hrow⟩ (fun hHeld => ?_)
    refine take_ (i := 0) (N := some 69) (v := ?_) (a' := ?_) #[true, false, false, false, false, false, false, false, false, false, false, false, false] rfl rfl (by as_aux_lemma => kernel_rfl) (fun _ _ _ h => h) (Or.inl ⟨by rfl, ?_⟩) hHeld ?_ ?_
    rotate_left
    · rintro w' ⟨s0, s1, s2, s3, s4, s5, s6, s7, s8, s9, s10, s11, s12, s13, s14⟩
      go_simp
      with_reducible rfl
    rotate_left
    · simp only [Act.put, List.setIfInBounds_toArray, List.set_cons_zero, List.set_cons_succ, i64_w, i32_w]
      rfl
    refine pure_ (i := 1) (N := some 70) (v := ?_) (a' := ?_) #[true, true, false, false, false, false, false, false, false, false, false, false, false] rfl rfl (by as_aux_lemma => kernel_rfl) (fun _ _ _ h => h) (Or.inl ⟨by rfl, ?_⟩) ?_ ?_
    rotate_left
    · intro w'
      go_simp
      with_reducible rfl
    rotate_left
    · simp only [Act.put, List.setIfInBounds_toArray, List.set_cons_zero, List.set_cons_succ, i64_w, i32_w]
      rfl
    refine pure_ (i := 2) (N := some 71) (v := ?_) (a' := ?_) #[true, true, true, false, false, false, false, false, false, false, false, false, false] rfl rfl (by as_aux_lemma => kernel_rfl) (fun _ _ _ h => h) (Or.inl ⟨by rfl, ?_⟩) ?_ ?_
    rotate_left
    · intro w'
      go_simp
      with_reducible rfl
    rotate_left
    · simp only [Act.put, List.setIfInBounds_toArray, List.set_cons_zero, List.set_cons_succ, i64_w, i32_w]
      rfl
    refine take_ (i := 3) (N := some 72) (v := ?_) (a' := ?_) #[true, true, true, true, false, false, false, false, false, false, false, false, false] rfl rfl (by as_aux_lemma => kernel_rfl) (fun _ _ _ h => h) (Or.inl ⟨by rfl, ?_⟩) hHeld ?_ ?_
    rotate_left
    · rintro w' ⟨s0, s1, s2, s3, s4, s5, s6, s7, s8, s9, s10, s11, s12, s13, s14⟩
      go_simp
      with_reducible rfl
    rotate_left
    · simp only [Act.put, List.setIfInBounds_toArray, List.set_cons_zero, List.set_cons_succ, i64_w, i32_w]
      rfl
    refine two_ (i := 4) (Ni := some 73) (j := 9) (Nj := some 10) #[true, true, true, true, true, false, false, false, false, false, false, false, false] #[true, true, true, true, false, false, false, false, false, true, false, false, false] rfl rfl rfl rfl (by as_aux_lemma => kernel_rfl) (by decide) (by decide) (fun K hK => ?_) (fun K hK => ?_)
    · skip
      refine goes_ Try.func12 (by as_aux_lemma => kernel_rfl) rfl #[.agg #[.int .i64 s.f0, .string s.f1.f0, .string s.f1.f1, .int .u8 s.f1.f2, .int .i64 s.f1.f3, .int .i64 s.f1.f4, .int .i64 s.f1.f5, .int .i64 s.f1.f6, .string s.f1.f7, .int .i64 s.f2, .int .i64 s.f3, .string s.f4, .string s.f5, .string s.f6], .slice B1 512 d1] (by rfl) rfl rfl (by (try simp only [List.map_toArray, List.map_cons, List.map_nil]); first | done | rfl | (simp only [List.length_drop, List.length_take]; rfl)) ?_
      refine (hstep B1 d1 _ HRD.out HCd.out).mono ?_
      rintro e_ wq ⟨A6, c6, rfl, hR_, hb_⟩
      have HBq := Aside0.mk (below_step HBd.out hb_)
      have HSq := Aside0.mk (blk_below HSd.out hb_)
      have HRq := Aside0.mk (pw_cell_below hb_ HRd.out)
      clear hb_ hR_
      refine ⟨_, rfl, ?_⟩
      obtain ⟨q0, q1, q2, q3, q4, q5, q6, q7, q8, q9, q10, q11, q12, q13⟩ := cells14 HSq.out
      have hrow_ := HRq.out
      refine hK.out _ _ ⟨q0, q1, q2, q3, q4, q5, q6, q7, q8, q9, q10, q11, q12, q13, hrow_⟩ (fun hHeld => ?_)
      clear hK K
      refine norm_ (a' := ?_) ?_ ?_
      rotate_left
      · show Act.put _ (some 73) _ = _
        simp only [Act.put, List.setIfInBounds_toArray, List.set_cons_zero, List.set_cons_succ, i64_w, i32_w]
        rfl
      clear hrow_ q0 q1 q2 q3 q4 q5 q6 q7 q8 q9 q10 q11 q12 q13
      refine pure_ (i := 5) (N := some 68) (v := ?_) (a' := ?_) #[true, true, true, true, true, true, false, false, false, false, false, false, false] rfl rfl (by as_aux_lemma => kernel_rfl) (fun _ _ _ h => h) (Or.inl ⟨by rfl, ?_⟩) ?_ ?_
      rotate_left
      · intro w'
        go_simp
        with_reducible rfl
      rotate_left
      · simp only [Act.put, List.setIfInBounds_toArray, List.set_cons_zero, List.set_cons_succ, i64_w, i32_w]
        rfl
      refine pure_ (i := 6) (N := some 74) (v := ?_) (a' := ?_) #[true, true, true, true, true, true, true, false, false, false, false, false, false] rfl rfl (by as_aux_lemma => kernel_rfl) (fun _ _ _ h => h) (Or.inl ⟨by rfl, ?_⟩) ?_ ?_
      rotate_left
      · intro w'
        go_simp
        with_reducible rfl
      rotate_left
      · simp only [Act.put, List.setIfInBounds_toArray, List.set_cons_zero, List.set_cons_succ, i64_w, i32_w]
        rfl
      refine pure_ (i := 7) (N := some 75) (v := ?_) (a' := ?_) #[true, true, true, true, true, true, true, true, false, false, false, false, false] rfl rfl (by as_aux_lemma => kernel_rfl) (fun _ _ _ h => h) (Or.inl ⟨by rfl, ?_⟩) ?_ ?_
      rotate_left
      · intro w'
        go_simp
        with_reducible rfl
      rotate_left
      · simp only [Act.put, List.setIfInBounds_toArray, List.set_cons_zero, List.set_cons_succ, i64_w, i32_w]
        rfl
      refine pure_ (i := 8) (N := some 76) (v := ?_) (a' := ?_) #[true, true, true, true, true, true, true, true, true, false, false, false, false] rfl rfl (by as_aux_lemma => kernel_rfl) (fun _ _ _ h => h) (Or.inl ⟨by rfl, ?_⟩) ?_ ?_
      rotate_left
      · intro w'
        go_simp
        with_reducible rfl
      rotate_left
      · simp only [Act.put, List.setIfInBounds_toArray, List.set_cons_zero, List.set_cons_succ, i64_w, i32_w]
        rfl
      refine one_ (i := 9) (N := some 10) #[true, true, true, true, true, true, true, true, true, true, false, false, false] rfl rfl (by as_aux_lemma => kernel_rfl) (by decide) (fun K hK => ?_)
      rw [if_pos (by rfl)]
      go_simp
      have HBg := Aside0.mk (id (below_alloc HBq.out (.cells #[.int .i64 0, .string ⟨#[]⟩, .string ⟨#[]⟩, .int .u8 0, .int .i64 0, .int .i64 0, .int .i64 0, .int .i64 0, .string ⟨#[]⟩, .int .i64 0, .int .i64 0, .string ⟨#[]⟩, .string ⟨#[]⟩, .string ⟨#[]⟩] 25)))
      have HSg := Aside0.mk (id (blk_alloc HSq.out (.cells #[.int .i64 0, .string ⟨#[]⟩, .string ⟨#[]⟩, .int .u8 0, .int .i64 0, .int .i64 0, .int .i64 0, .int .i64 0, .string ⟨#[]⟩, .int .i64 0, .int .i64 0, .string ⟨#[]⟩, .string ⟨#[]⟩, .string ⟨#[]⟩] 25)))
      have HTg := Aside0.mk (id (heap_alloc_new wq (.cells #[.int .i64 0, .string ⟨#[]⟩, .string ⟨#[]⟩, .int .u8 0, .int .i64 0, .int .i64 0, .int .i64 0, .int .i64 0, .string ⟨#[]⟩, .int .i64 0, .int .i64 0, .string ⟨#[]⟩, .string ⟨#[]⟩, .string ⟨#[]⟩] 25)))
      have HRg := Aside0.mk (id (pw_cell_below (below_alloc (Below.refl _ _) (.cells #[.int .i64 0, .string ⟨#[]⟩, .string ⟨#[]⟩, .int .u8 0, .int .i64 0, .int .i64 0, .int .i64 0, .int .i64 0, .string ⟨#[]⟩, .int .i64 0, .int .i64 0, .string ⟨#[]⟩, .string ⟨#[]⟩, .string ⟨#[]⟩] 25)) HRq.out))
      obtain ⟨q0, q1, q2, q3, q4, q5, q6, q7, q8, q9, q10, q11, q12, q13⟩ := cells14 HSg.out
      have hrow_ := HRg.out
      refine hK.out _ _ ⟨q0, q1, q2, q3, q4, q5, q6, q7, q8, q9, q10, q11, q12, q13, hrow_⟩ (fun hHeld => ?_)
      clear hK K hrow_ q0 q1 q2 q3 q4 q5 q6 q7 q8 q9 q10 q11 q12 q13
      obtain ⟨Wg, hWa⟩ : ∃ W, (wq.alloc (.cells #[.int .i64 0, .string ⟨#[]⟩, .string ⟨#[]⟩, .int .u8 0, .int .i64 0, .int .i64 0, .int .i64 0, .int .i64 0, .string ⟨#[]⟩, .int .i64 0, .int .i64 0, .string ⟨#[]⟩, .string ⟨#[]⟩, .string ⟨#[]⟩] 25)) = W := ⟨_, rfl⟩
      rw [hWa] at HBg HSg HTg HRg hHeld ⊢
      clear hWa
      have HG := Aside0.mk (show w.heap.size ≤ wq.heap.size ∧ w.heap.size ≠ wq.heap.size from by have h_ := blk_lt HSq.out; exact ⟨by omega, by omega⟩)
      generalize wq.heap.size = g at *
      obtain ⟨t0, t1, t2, t3, t4, t5, t6, t7, t8, t9, t10, t11, t12, t13⟩ := cells14 HTg.out
      have y0 := blk_frozen HTg.out 0
      have y1 := blk_frozen HTg.out 1
      have y2 := blk_frozen HTg.out 2
      have y3 := blk_frozen HTg.out 3
      have y4 := blk_frozen HTg.out 4
      have y5 := blk_frozen HTg.out 5
      have y6 := blk_frozen HTg.out 6
      have y7 := blk_frozen HTg.out 7
      have y8 := blk_frozen HTg.out 8
      have y9 := blk_frozen HTg.out 9
      have y10 := blk_frozen HTg.out 10
      have y11 := blk_frozen HTg.out 11
      have y12 := blk_frozen HTg.out 12
      have y13 := blk_frozen HTg.out 13
      refine last_ (i := 10) (N := none) #[true, true, true, true, true, true, true, true, true, true, true, false, false] rfl rfl (by as_aux_lemma => kernel_rfl) (by decide) (fun K hK => ?_)
      rw [if_pos (by rfl)]
      go_simp
      refine hK.out _ _ ?_
      clear hK K
      refine pure_ (i := 11) (N := some 11) (v := ?_) (a' := ?_) #[true, true, true, true, true, true, true, true, true, true, true, true, false] rfl rfl (by as_aux_lemma => kernel_rfl) (fun _ _ _ h => h) (Or.inl ⟨by rfl, ?_⟩) ?_ ?_
      rotate_left
      · intro w'
        go_simp
        with_reducible rfl
      rotate_left
      · simp only [Act.put, List.setIfInBounds_toArray, List.set_cons_zero, List.set_cons_succ, i64_w, i32_w]
        rfl
      refine pure_ (i := 12) (N := some 12) (v := ?_) (a' := ?_) #[true, true, true, true, true, true, true, true, true, true, true, true, true] rfl rfl (by as_aux_lemma => kernel_rfl) (fun _ _ _ h => h) (Or.inl ⟨by rfl, ?_⟩) ?_ ?_
      rotate_left
      · intro w'
        go_simp
        with_reducible rfl
      rotate_left
      · simp only [Act.put, List.setIfInBounds_toArray, List.set_cons_zero, List.set_cons_succ, i64_w, i32_w]
        rfl
      refine done_ (by as_aux_lemma => kernel_rfl) ?_
      have hX := set14 (S := fun i => w.heap.size ≤ i) (t := st0) HTg.out (Turn.refl _ _) HG.out.1 s
      have HB6 := Aside0.mk (bel_turn HBg.out hX.2)
      have HT6 := Aside0.mk hX.1
      have HS6 := Aside0.mk (far14 HSg.out HG.out.2 s)
      clear hX
      go_wp2_with (fail)
      go_meet
      case rel => exact ⟨_, A6, c6, rfl, rfl, rfl, HB6, HS6, HT6⟩
    · skip
      rw [if_pos (by rfl)]
      go_simp
      have HBa := Aside0.mk (below_drew1 (below_alloc HB5.out (.cells #[.int .i64 0, .string ⟨#[]⟩, .string ⟨#[]⟩, .int .u8 0, .int .i64 0, .int .i64 0, .int .i64 0, .int .i64 0, .string ⟨#[]⟩, .int .i64 0, .int .i64 0, .string ⟨#[]⟩, .string ⟨#[]⟩, .string ⟨#[]⟩] 25)))
      have HSa := Aside0.mk (blk_drew (blk_alloc HS5.out (.cells #[.int .i64 0, .string ⟨#[]⟩, .string ⟨#[]⟩, .int .u8 0, .int .i64 0, .int .i64 0, .int .i64 0, .int .i64 0, .string ⟨#[]⟩, .int .i64 0, .int .i64 0, .string ⟨#[]⟩, .string ⟨#[]⟩, .string ⟨#[]⟩] 25)))
      have HTa := Aside0.mk (blk_drew (heap_alloc_new w5 (.cells #[.int .i64 0, .string ⟨#[]⟩, .string ⟨#[]⟩, .int .u8 0, .int .i64 0, .int .i64 0, .int .i64 0, .int .i64 0, .string ⟨#[]⟩, .int .i64 0, .int .i64 0, .string ⟨#[]⟩, .string ⟨#[]⟩, .string ⟨#[]⟩] 25)))
      have HRa := Aside0.mk (pw_cell_below (below_drew1 (Below.refl _ _)) (pw_cell_below (below_alloc (Below.refl _ _) (.cells #[.int .i64 0, .string ⟨#[]⟩, .string ⟨#[]⟩, .int .u8 0, .int .i64 0, .int .i64 0, .int .i64 0, .int .i64 0, .string ⟨#[]⟩, .int .i64 0, .int .i64 0, .string ⟨#[]⟩, .string ⟨#[]⟩, .string ⟨#[]⟩] 25)) HR5.out))
      have HCa := Aside0.mk (Kd.C_drew (Kd.C_alloc HC5.out (.cells #[.int .i64 0, .string ⟨#[]⟩, .string ⟨#[]⟩, .int .u8 0, .int .i64 0, .int .i64 0, .int .i64 0, .int .i64 0, .string ⟨#[]⟩, .int .i64 0, .int .i64 0, .string ⟨#[]⟩, .string ⟨#[]⟩, .string ⟨#[]⟩] 25)))
      obtain ⟨q0, q1, q2, q3, q4, q5, q6, q7, q8, q9, q10, q11, q12, q13⟩ := cells14 HSa.out
      have hrow_ := HRa.out
      refine hK.out _ _ ⟨q0, q1, q2, q3, q4, q5, q6, q7, q8, q9, q10, q11, q12, q13, hrow_⟩ (fun hHeld => ?_)
      clear hK K hrow_ q0 q1 q2 q3 q4 q5 q6 q7 q8 q9 q10 q11 q12 q13
      obtain ⟨Wa, hWa⟩ : ∃ W, (w5.alloc (.cells #[.int .i64 0, .string ⟨#[]⟩, .string ⟨#[]⟩, .int .u8 0, .int .i64 0, .int .i64 0, .int .i64 0, .int .i64 0, .string ⟨#[]⟩, .int .i64 0, .int .i64 0, .string ⟨#[]⟩, .string ⟨#[]⟩, .string ⟨#[]⟩] 25)).drew = W := ⟨_, rfl⟩
      rw [hWa] at HBa HSa HTa HRa HCa hHeld ⊢
      clear hWa
      refine one_ (i := 4) (N := some 73) #[true, true, true, true, true, false, false, false, false, true, false, false, false] rfl rfl (by as_aux_lemma => kernel_rfl) (by decide) (fun K hK => ?_)
      refine goes_ Try.func12 (by as_aux_lemma => kernel_rfl) rfl #[.agg #[.int .i64 s.f0, .string s.f1.f0, .string s.f1.f1, .int .u8 s.f1.f2, .int .i64 s.f1.f3, .int .i64 s.f1.f4, .int .i64 s.f1.f5, .int .i64 s.f1.f6, .string s.f1.f7, .int .i64 s.f2, .int .i64 s.f3, .string s.f4, .string s.f5, .string s.f6], .slice B1 512 d1] (by rfl) rfl rfl (by (try simp only [List.map_toArray, List.map_cons, List.map_nil]); first | done | rfl | (simp only [List.length_drop, List.length_take]; rfl)) ?_
      refine (hstep B1 d1 _ HRD.out HCa.out).mono ?_
      rintro e_ wq ⟨A6, c6, rfl, hR_, hb_⟩
      have HBq := Aside0.mk (below_step HBa.out hb_)
      have HSq := Aside0.mk (blk_below HSa.out hb_)
      have HRq := Aside0.mk (pw_cell_below hb_ HRa.out)
      have HTq := Aside0.mk (blk_below HTa.out hb_)
      clear hb_ hR_
      refine ⟨_, rfl, ?_⟩
      obtain ⟨q0, q1, q2, q3, q4, q5, q6, q7, q8, q9, q10, q11, q12, q13⟩ := cells14 HSq.out
      have hrow_ := HRq.out
      refine hK.out _ _ ⟨q0, q1, q2, q3, q4, q5, q6, q7, q8, q9, q10, q11, q12, q13, hrow_⟩ (fun hHeld => ?_)
      clear hK K
      refine norm_ (a' := ?_) ?_ ?_
      rotate_left
      · show Act.put _ (some 73) _ = _
        simp only [Act.put, List.setIfInBounds_toArray, List.set_cons_zero, List.set_cons_succ, i64_w, i32_w]
        rfl
      clear hrow_ q0 q1 q2 q3 q4 q5 q6 q7 q8 q9 q10 q11 q12 q13
      refine pure_ (i := 5) (N := some 68) (v := ?_) (a' := ?_) #[true, true, true, true, true, true, false, false, false, true, false, false, false] rfl rfl (by as_aux_lemma => kernel_rfl) (fun _ _ _ h => h) (Or.inl ⟨by rfl, ?_⟩) ?_ ?_
      rotate_left
      · intro w'
        go_simp
        with_reducible rfl
      rotate_left
      · simp only [Act.put, List.setIfInBounds_toArray, List.set_cons_zero, List.set_cons_succ, i64_w, i32_w]
        rfl
      refine pure_ (i := 6) (N := some 74) (v := ?_) (a' := ?_) #[true, true, true, true, true, true, true, false, false, true, false, false, false] rfl rfl (by as_aux_lemma => kernel_rfl) (fun _ _ _ h => h) (Or.inl ⟨by rfl, ?_⟩) ?_ ?_
      rotate_left
      · intro w'
        go_simp
        with_reducible rfl
      rotate_left
      · simp only [Act.put, List.setIfInBounds_toArray, List.set_cons_zero, List.set_cons_succ, i64_w, i32_w]
        rfl
      refine pure_ (i := 7) (N := some 75) (v := ?_) (a' := ?_) #[true, true, true, true, true, true, true, true, false, true, false, false, false] rfl rfl (by as_aux_lemma => kernel_rfl) (fun _ _ _ h => h) (Or.inl ⟨by rfl, ?_⟩) ?_ ?_
      rotate_left
      · intro w'
        go_simp
        with_reducible rfl
      rotate_left
      · simp only [Act.put, List.setIfInBounds_toArray, List.set_cons_zero, List.set_cons_succ, i64_w, i32_w]
        rfl
      refine pure_ (i := 8) (N := some 76) (v := ?_) (a' := ?_) #[true, true, true, true, true, true, true, true, true, true, false, false, false] rfl rfl (by as_aux_lemma => kernel_rfl) (fun _ _ _ h => h) (Or.inl ⟨by rfl, ?_⟩) ?_ ?_
      rotate_left
      · intro w'
        go_simp
        with_reducible rfl
      rotate_left
      · simp only [Act.put, List.setIfInBounds_toArray, List.set_cons_zero, List.set_cons_succ, i64_w, i32_w]
        rfl
      have HG := Aside0.mk (show w.heap.size ≤ w5.heap.size ∧ w.heap.size ≠ w5.heap.size from by have h_ := blk_lt HS5.out; exact ⟨by omega, by omega⟩)
      generalize w5.heap.size = g at *
      obtain ⟨t0, t1, t2, t3, t4, t5, t6, t7, t8, t9, t10, t11, t12, t13⟩ := cells14 HTq.out
      have y0 := blk_frozen HTq.out 0
      have y1 := blk_frozen HTq.out 1
      have y2 := blk_frozen HTq.out 2
      have y3 := blk_frozen HTq.out 3
      have y4 := blk_frozen HTq.out 4
      have y5 := blk_frozen HTq.out 5
      have y6 := blk_frozen HTq.out 6
      have y7 := blk_frozen HTq.out 7
      have y8 := blk_frozen HTq.out 8
      have y9 := blk_frozen HTq.out 9
      have y10 := blk_frozen HTq.out 10
      have y11 := blk_frozen HTq.out 11
      have y12 := blk_frozen HTq.out 12
      have y13 := blk_frozen HTq.out 13
      refine last_ (i := 10) (N := none) #[true, true, true, true, true, true, true, true, true, true, true, false, false] rfl rfl (by as_aux_lemma => kernel_rfl) (by decide) (fun K hK => ?_)
      rw [if_pos (by rfl)]
      go_simp
      refine hK.out _ _ ?_
      clear hK K
      refine pure_ (i := 11) (N := some 11) (v := ?_) (a' := ?_) #[true, true, true, true, true, true, true, true, true, true, true, true, false] rfl rfl (by as_aux_lemma => kernel_rfl) (fun _ _ _ h => h) (Or.inl ⟨by rfl, ?_⟩) ?_ ?_
      rotate_left
      · intro w'
        go_simp
        with_reducible rfl
      rotate_left
      · simp only [Act.put, List.setIfInBounds_toArray, List.set_cons_zero, List.set_cons_succ, i64_w, i32_w]
        rfl
      refine pure_ (i := 12) (N := some 12) (v := ?_) (a' := ?_) #[true, true, true, true, true, true, true, true, true, true, true, true, true] rfl rfl (by as_aux_lemma => kernel_rfl) (fun _ _ _ h => h) (Or.inl ⟨by rfl, ?_⟩) ?_ ?_
      rotate_left
      · intro w'
        go_simp
        with_reducible rfl
      rotate_left
      · simp only [Act.put, List.setIfInBounds_toArray, List.set_cons_zero, List.set_cons_succ, i64_w, i32_w]
        rfl
      refine done_ (by as_aux_lemma => kernel_rfl) ?_
      have hX := set14 (S := fun i => w.heap.size ≤ i) (t := st0) HTq.out (Turn.refl _ _) HG.out.1 s
      have HB6 := Aside0.mk (bel_turn HBq.out hX.2)
      have HT6 := Aside0.mk hX.1
      have HS6 := Aside0.mk (far14 HSq.out HG.out.2 s)
      clear hX
      go_wp2_with (fail)
      go_meet
      case rel => exact ⟨_, A6, c6, rfl, rfl, rfl, HB6, HS6, HT6⟩
  case rest =>
    obtain ⟨g, A6, c6, rfl, rfl, rfl, HB6, HS6, HT6⟩ := hcut
    clear z0_5 z1_5 z2_5 z3_5 z4_5 z5_5 z6_5 z7_5 z8_5 z9_5 z10_5 z11_5 z12_5 z13_5 n0_5 n1_5 n2_5 n3_5 n4_5 n5_5 n6_5 n7_5
    obtain ⟨z0_6, z1_6, z2_6, z3_6, z4_6, z5_6, z6_6, z7_6, z8_6, z9_6, z10_6, z11_6, z12_6, z13_6⟩ := cells14 HS6.out
    obtain ⟨t0_6, t1_6, t2_6, t3_6, t4_6, t5_6, t6_6, t7_6, t8_6, t9_6, t10_6, t11_6, t12_6, t13_6⟩ := cells14 HT6.out
    go_wp2_with (fail)
    go_ret
    exact ⟨rfl, HB6.out⟩
theorem reelkeeperlaw09_ParseTypes.calls (k : Nat) (s : Pst) (a1_0 a1_1 : ByteArray) (a1_2 a1_3 a1_4 a1_5 a1_6 : Int) (a1_7 : ByteArray) (r : Bool) (w : World) (h : reelkeeperlaw09_ParseTypes.f k s ⟨a1_0, a1_1, a1_2, a1_3, a1_4, a1_5, a1_6, a1_7⟩ = some r) :
    Calls Try.prog 8 #[.agg #[.int .i64 s.f0, .string s.f1.f0, .string s.f1.f1, .int .u8 s.f1.f2, .int .i64 s.f1.f3, .int .i64 s.f1.f4, .int .i64 s.f1.f5, .int .i64 s.f1.f6, .string s.f1.f7, .int .i64 s.f2, .int .i64 s.f3, .string s.f4, .string s.f5, .string s.f6], .agg #[.string a1_0, .string a1_1, .int .u8 a1_2, .int .i64 a1_3, .int .i64 a1_4, .int .i64 a1_5, .int .i64 a1_6, .string a1_7]] w fun e w' => e = .returned (.bool r) ∧ Below w.heap.size w w' := by
  obtain rfl : true = r := Option.some.inj h
  exact parse_types.at_ s ⟨a1_0, a1_1, a1_2, a1_3, a1_4, a1_5, a1_6, a1_7⟩ w

end Go.Proofs.Ytoahjigjlgcjkaa.X
