import Derived.Test.YtpedagpcblnnhaaGreatXK
import Derived.Test.YtpedagpcblnnhaaGreatXGpa
import Derived.Test.YtpedagpcblnnhaaGreatXGtree
import Derived.Test.YtpedagpcblnnhaaGreatP06o
import Derived.Test.YtpedagpcblnnhaaGreatYAll
import Derived.Test.YtpedagpcblnnhaaGreatPGA
import Derived.Test.YtpedagpcblnnhaaGreatPGE
import Derived.Deep.RegionHeld3
import Derived.Laws.EntriesVeiled
import Derived.WalkSpells
namespace Go.Proofs.YtpedagpcblnnhaaGreat.X
open Go.RowKit Go.Proofs.YtpedagpcblnnhaaGreatW.PrintWords Go.Proofs.YtpedagpcblnnhaaGreatW.PrintLast Go.Proofs.YtpedagpcblnnhaaGreatW.PrintMore
attribute [local go_sem] max2_int min2_int max_two min_two
set_option linter.unusedVariables false
set_option linter.unusedSimpArgs false
open Go.Proofs.YtpedagpcblnnhaaGreatY
set_option maxRecDepth 100000
theorem cells14 {W : World} {b : Nat} {T : TypeId} {v0 v1 v2 v3 v4 v5 v6 v7 v8 v9 v10 v11 v12 v13 : Value} (h : W.heap[b]? = some (.cells #[v0, v1, v2, v3, v4, v5, v6, v7, v8, v9, v10, v11, v12, v13] T (0, 0))) : W.cell? ⟨b, 0, none⟩ = some v0 ∧ W.cell? ⟨b, 1, none⟩ = some v1 ∧ W.cell? ⟨b, 2, none⟩ = some v2 ∧ W.cell? ⟨b, 3, none⟩ = some v3 ∧ W.cell? ⟨b, 4, none⟩ = some v4 ∧ W.cell? ⟨b, 5, none⟩ = some v5 ∧ W.cell? ⟨b, 6, none⟩ = some v6 ∧ W.cell? ⟨b, 7, none⟩ = some v7 ∧ W.cell? ⟨b, 8, none⟩ = some v8 ∧ W.cell? ⟨b, 9, none⟩ = some v9 ∧ W.cell? ⟨b, 10, none⟩ = some v10 ∧ W.cell? ⟨b, 11, none⟩ = some v11 ∧ W.cell? ⟨b, 12, none⟩ = some v12 ∧ W.cell? ⟨b, 13, none⟩ = some v13 :=
  ⟨(blk_cell h 0).trans rfl, (blk_cell h 1).trans rfl, (blk_cell h 2).trans rfl, (blk_cell h 3).trans rfl, (blk_cell h 4).trans rfl, (blk_cell h 5).trans rfl, (blk_cell h 6).trans rfl, (blk_cell h 7).trans rfl, (blk_cell h 8).trans rfl, (blk_cell h 9).trans rfl, (blk_cell h 10).trans rfl, (blk_cell h 11).trans rfl, (blk_cell h 12).trans rfl, (blk_cell h 13).trans rfl⟩
def noT (s : ByteArray) : Bool := s.toList == ([] : List UInt8)
def wordB (s : ByteArray) : Bool := noT s || textB s
def inB3 (n a b : Int) : Bool := decide (n ≥ a) && decide (n ≤ b)
theorem in_f (n a b : Int) : parse_in.f n a b = some (inB3 n a b) := by
  unfold parse_in.f inB3
  by_cases h : a ≤ n
  · have h2 : decide (n ≥ a) = true := decide_eq_true h
    rw [h2]; simp [h]
  · have h2 : decide (n ≥ a) = false := decide_eq_false h
    rw [h2]; simp [h]
theorem wordO_b (s : ByteArray) : wordO s = some (wordB s) := by
  unfold wordO wordB noT
  by_cases h : s.toList = []
  · rw [if_pos h, h]; rfl
  · rw [if_neg h, beq_eq_false_iff_ne.2 h, long_text]; rfl
theorem words_b (a0_0 : Int) (a0_1 a0_2 : ByteArray) (a0_3 a0_4 a0_5 a0_6 a0_7 : Int) (a0_8 : ByteArray) (a0_9 a0_10 : Int) (a0_11 a0_12 a0_13 : ByteArray) : parse_words.f a0_0 a0_1 a0_2 a0_3 a0_4 a0_5 a0_6 a0_7 a0_8 a0_9 a0_10 a0_11 a0_12 a0_13 = some (wordB a0_12 && wordB a0_13) := by
  unfold parse_words.f
  rw [wordO_b, wordO_b]
  cases wordB a0_12 <;> rfl
def mayS (s : Pst) : Bool :=
  if s.f0 = 0 then eqSt s ⟨0, nd00, 0, 0, ⟨#[]⟩, s.f5, s.f6⟩ && (wordB s.f5 && wordB s.f6)
  else if s.f0 = 1 then eqSt s ⟨1, nd00, s.f2, s.f2, ⟨#[]⟩, s.f5, s.f6⟩ && (noT s.f5 && (inB3 s.f2 2 301 && (wordB s.f5 && wordB s.f6)))
  else if s.f0 = 2 then eqSt s ⟨2, nd00, s.f2, s.f2, ⟨#[]⟩, s.f5, s.f6⟩ && (noT s.f6 && (inB3 s.f2 2 301 && (wordB s.f5 && wordB s.f6)))
  else if s.f0 = 3 then eqSt s ⟨3, s.f1, s.f2, s.f3, ⟨#[]⟩, ⟨#[]⟩, ⟨#[]⟩⟩ && (s.f1.f2 == 48 && (noT s.f1.f7 && (oneB s.f1 && (inB3 s.f2 1 4000 && (inB3 s.f3 1 s.f2 && ((s.f2 - s.f3).tmod 512 == 0))))))
  else if s.f0 = 4 then eqSt s ⟨4, nd00, 0, 0, ⟨#[]⟩, ⟨#[]⟩, ⟨#[]⟩⟩
  else if s.f0 = 5 then eqSt s ⟨5, nd00, 0, 0, ⟨#[]⟩, ⟨#[]⟩, ⟨#[]⟩⟩
  else false
set_option maxHeartbeats 3200000 in
theorem may_0 (n0 n1 : ByteArray) (n2 n3 n4 n5 n6 : Int) (n7 : ByteArray) (f2 f3 : Int) (f4 f5 f6 : ByteArray) (h0 : n0.size ≤ 9223372036854775807) (h1 : n1.size ≤ 9223372036854775807) (w : World) :
    Calls Tryz.prog 37 #[.agg #[.int .i64 0, .string n0, .string n1, .int .u8 n2, .int .i64 n3, .int .i64 n4, .int .i64 n5, .int .i64 n6, .string n7, .int .i64 f2, .int .i64 f3, .string f4, .string f5, .string f6]] w fun e w' => e = .returned (.bool (mayS ⟨0, ⟨n0, n1, n2, n3, n4, n5, n6, n7⟩, f2, f3, f4, f5, f6⟩)) ∧ Below w.heap.size w w' := by
  unfold mayS
  dsimp only
  rw [if_pos rfl]
  have hwd := fun W => parse_words.calls 0 n0 n1 n2 n3 n4 n5 n6 n7 f2 f3 f4 f5 f6 _ W (words_b _ _ _ _ _ _ _ _ _ _ _ _ _ _)
  have heq : ∀ (d : Nat) (W : World), (Op.equalIn (d + 3) 49 (.agg #[.int .i64 0, .string n0, .string n1, .int .u8 n2, .int .i64 n3, .int .i64 n4, .int .i64 n5, .int .i64 n6, .string n7, .int .i64 f2, .int .i64 f3, .string f4, .string f5, .string f6]) (.agg #[.int .i64 0, .string ⟨#[]⟩, .string ⟨#[]⟩, .int .u8 0, .int .i64 0, .int .i64 0, .int .i64 0, .int .i64 0, .string ⟨#[]⟩, .int .i64 0, .int .i64 0, .string ⟨#[]⟩, .string f5, .string f6])).run Tryz.prog W = .ok (eqSt ⟨0, ⟨n0, n1, n2, n3, n4, n5, n6, n7⟩, f2, f3, f4, f5, f6⟩ ⟨0, nd00, 0, 0, ⟨#[]⟩, f5, f6⟩) W := fun d W => st_eq d W ⟨0, ⟨n0, n1, n2, n3, n4, n5, n6, n7⟩, f2, f3, f4, f5, f6⟩ ⟨0, nd00, 0, 0, ⟨#[]⟩, f5, f6⟩
  generalize eqSt _ _ = E at *
  generalize (wordB f5 && wordB f6) = B at *
  have HB0 := Aside0.mk (below_alloc (Below.refl w.heap.size w) (.cells #[.int .i64 0, .string n0, .string n1, .int .u8 n2, .int .i64 n3, .int .i64 n4, .int .i64 n5, .int .i64 n6, .string n7, .int .i64 f2, .int .i64 f3, .string f4, .string f5, .string f6] 49))
  have HX0 := Aside0.mk (heap_alloc_new w (.cells #[.int .i64 0, .string n0, .string n1, .int .u8 n2, .int .i64 n3, .int .i64 n4, .int .i64 n5, .int .i64 n6, .string n7, .int .i64 f2, .int .i64 f3, .string f4, .string f5, .string f6] 49))
  obtain ⟨z0_0, z1_0, z2_0, z3_0, z4_0, z5_0, z6_0, z7_0, z8_0, z9_0, z10_0, z11_0, z12_0, z13_0⟩ := cells14 HX0.out
  go_enter Tryz.func37, Tryz.ntmps37
  cases E with
  | false =>
    go_wp2_with (fail)
    go_ret
    exact ⟨by first | rfl | simp, HB0.out⟩
  | true =>
    go_wp2_with (first | (have _t := HB0; go_at_call 57; (with_reducible refine (hwd _).mono ?_); rintro e w1 ⟨rfl, hb⟩; have HB1 := Aside0.mk (below_step HB0.out hb); have HX1 := Aside0.mk (blk_below HX0.out hb); clear hb HB0; obtain ⟨z0_1, z1_1, z2_1, z3_1, z4_1, z5_1, z6_1, z7_1, z8_1, z9_1, z10_1, z11_1, z12_1, z13_1⟩ := cells14 HX1.out))
    go_ret
    exact ⟨by first | rfl | simp, HB1.out⟩
set_option maxHeartbeats 3200000 in
theorem may_1 (n0 n1 : ByteArray) (n2 n3 n4 n5 n6 : Int) (n7 : ByteArray) (f2 f3 : Int) (f4 f5 f6 : ByteArray) (h0 : n0.size ≤ 9223372036854775807) (h1 : n1.size ≤ 9223372036854775807) (w : World) :
    Calls Tryz.prog 37 #[.agg #[.int .i64 1, .string n0, .string n1, .int .u8 n2, .int .i64 n3, .int .i64 n4, .int .i64 n5, .int .i64 n6, .string n7, .int .i64 f2, .int .i64 f3, .string f4, .string f5, .string f6]] w fun e w' => e = .returned (.bool (mayS ⟨1, ⟨n0, n1, n2, n3, n4, n5, n6, n7⟩, f2, f3, f4, f5, f6⟩)) ∧ Below w.heap.size w w' := by
  unfold mayS
  dsimp only
  rw [if_neg (by decide)]
  rw [if_pos rfl]
  have hwd := fun W => parse_words.calls 1 n0 n1 n2 n3 n4 n5 n6 n7 f2 f3 f4 f5 f6 _ W (words_b _ _ _ _ _ _ _ _ _ _ _ _ _ _)
  have hin := fun W => parse_in.calls f2 2 301 _ W (in_f f2 2 301)
  have heq : ∀ (d : Nat) (W : World), (Op.equalIn (d + 3) 49 (.agg #[.int .i64 1, .string n0, .string n1, .int .u8 n2, .int .i64 n3, .int .i64 n4, .int .i64 n5, .int .i64 n6, .string n7, .int .i64 f2, .int .i64 f3, .string f4, .string f5, .string f6]) (.agg #[.int .i64 1, .string ⟨#[]⟩, .string ⟨#[]⟩, .int .u8 0, .int .i64 0, .int .i64 0, .int .i64 0, .int .i64 0, .string ⟨#[]⟩, .int .i64 f2, .int .i64 f2, .string ⟨#[]⟩, .string f5, .string f6])).run Tryz.prog W = .ok (eqSt ⟨1, ⟨n0, n1, n2, n3, n4, n5, n6, n7⟩, f2, f3, f4, f5, f6⟩ ⟨1, nd00, f2, f2, ⟨#[]⟩, f5, f6⟩) W := fun d W => st_eq d W ⟨1, ⟨n0, n1, n2, n3, n4, n5, n6, n7⟩, f2, f3, f4, f5, f6⟩ ⟨1, nd00, f2, f2, ⟨#[]⟩, f5, f6⟩
  generalize eqSt _ _ = E at *
  generalize (wordB f5 && wordB f6) = B at *
  generalize inB3 f2 2 301 = C at *
  obtain ⟨O, hO⟩ : ∃ O, noT f5 = O := ⟨_, rfl⟩
  rw [hO]
  have hO2 : (f5.toList == ([] : List UInt8)) = O := hO
  clear hO
  have HB0 := Aside0.mk (below_alloc (Below.refl w.heap.size w) (.cells #[.int .i64 1, .string n0, .string n1, .int .u8 n2, .int .i64 n3, .int .i64 n4, .int .i64 n5, .int .i64 n6, .string n7, .int .i64 f2, .int .i64 f3, .string f4, .string f5, .string f6] 49))
  have HX0 := Aside0.mk (heap_alloc_new w (.cells #[.int .i64 1, .string n0, .string n1, .int .u8 n2, .int .i64 n3, .int .i64 n4, .int .i64 n5, .int .i64 n6, .string n7, .int .i64 f2, .int .i64 f3, .string f4, .string f5, .string f6] 49))
  obtain ⟨z0_0, z1_0, z2_0, z3_0, z4_0, z5_0, z6_0, z7_0, z8_0, z9_0, z10_0, z11_0, z12_0, z13_0⟩ := cells14 HX0.out
  go_enter Tryz.func37, Tryz.ntmps37
  cases E with
  | false =>
    go_wp2_with (fail)
    go_ret
    exact ⟨by first | rfl | simp, HB0.out⟩
  | true =>
    cases O with
    | false =>
      go_wp2_with (fail)
      go_ret
      exact ⟨by first | rfl | simp, HB0.out⟩
    | true =>
      cases C with
      | false =>
        go_wp2_with (first | (have _t := HB0; go_at_call 58; (with_reducible refine (hin _).mono ?_); rintro e w1 ⟨rfl, hb⟩; have hb := Drawn0.below hb; have HB1 := Aside0.mk (below_step HB0.out hb); have HX1 := Aside0.mk (blk_below HX0.out hb); clear hb HB0; obtain ⟨z0_1, z1_1, z2_1, z3_1, z4_1, z5_1, z6_1, z7_1, z8_1, z9_1, z10_1, z11_1, z12_1, z13_1⟩ := cells14 HX1.out))
        go_ret
        exact ⟨by first | rfl | simp, HB1.out⟩
      | true =>
        go_wp2_with (first | (have _t := HB0; go_at_call 58; (with_reducible refine (hin _).mono ?_); rintro e w1 ⟨rfl, hb⟩; have hb := Drawn0.below hb; have HB1 := Aside0.mk (below_step HB0.out hb); have HX1 := Aside0.mk (blk_below HX0.out hb); clear hb HB0; obtain ⟨z0_1, z1_1, z2_1, z3_1, z4_1, z5_1, z6_1, z7_1, z8_1, z9_1, z10_1, z11_1, z12_1, z13_1⟩ := cells14 HX1.out) | (have _t := HB1; go_at_call 57; (with_reducible refine (hwd _).mono ?_); rintro e w2 ⟨rfl, hb⟩; have HB2 := Aside0.mk (below_step HB1.out hb); have HX2 := Aside0.mk (blk_below HX1.out hb); clear hb HB1; obtain ⟨z0_2, z1_2, z2_2, z3_2, z4_2, z5_2, z6_2, z7_2, z8_2, z9_2, z10_2, z11_2, z12_2, z13_2⟩ := cells14 HX2.out))
        go_ret
        exact ⟨by first | rfl | simp, HB2.out⟩
set_option maxHeartbeats 3200000 in
theorem may_2 (n0 n1 : ByteArray) (n2 n3 n4 n5 n6 : Int) (n7 : ByteArray) (f2 f3 : Int) (f4 f5 f6 : ByteArray) (h0 : n0.size ≤ 9223372036854775807) (h1 : n1.size ≤ 9223372036854775807) (w : World) :
    Calls Tryz.prog 37 #[.agg #[.int .i64 2, .string n0, .string n1, .int .u8 n2, .int .i64 n3, .int .i64 n4, .int .i64 n5, .int .i64 n6, .string n7, .int .i64 f2, .int .i64 f3, .string f4, .string f5, .string f6]] w fun e w' => e = .returned (.bool (mayS ⟨2, ⟨n0, n1, n2, n3, n4, n5, n6, n7⟩, f2, f3, f4, f5, f6⟩)) ∧ Below w.heap.size w w' := by
  unfold mayS
  dsimp only
  rw [if_neg (by decide)]
  rw [if_neg (by decide)]
  rw [if_pos rfl]
  have hwd := fun W => parse_words.calls 2 n0 n1 n2 n3 n4 n5 n6 n7 f2 f3 f4 f5 f6 _ W (words_b _ _ _ _ _ _ _ _ _ _ _ _ _ _)
  have hin := fun W => parse_in.calls f2 2 301 _ W (in_f f2 2 301)
  have heq : ∀ (d : Nat) (W : World), (Op.equalIn (d + 3) 49 (.agg #[.int .i64 2, .string n0, .string n1, .int .u8 n2, .int .i64 n3, .int .i64 n4, .int .i64 n5, .int .i64 n6, .string n7, .int .i64 f2, .int .i64 f3, .string f4, .string f5, .string f6]) (.agg #[.int .i64 2, .string ⟨#[]⟩, .string ⟨#[]⟩, .int .u8 0, .int .i64 0, .int .i64 0, .int .i64 0, .int .i64 0, .string ⟨#[]⟩, .int .i64 f2, .int .i64 f2, .string ⟨#[]⟩, .string f5, .string f6])).run Tryz.prog W = .ok (eqSt ⟨2, ⟨n0, n1, n2, n3, n4, n5, n6, n7⟩, f2, f3, f4, f5, f6⟩ ⟨2, nd00, f2, f2, ⟨#[]⟩, f5, f6⟩) W := fun d W => st_eq d W ⟨2, ⟨n0, n1, n2, n3, n4, n5, n6, n7⟩, f2, f3, f4, f5, f6⟩ ⟨2, nd00, f2, f2, ⟨#[]⟩, f5, f6⟩
  generalize eqSt _ _ = E at *
  generalize (wordB f5 && wordB f6) = B at *
  generalize inB3 f2 2 301 = C at *
  obtain ⟨O, hO⟩ : ∃ O, noT f6 = O := ⟨_, rfl⟩
  rw [hO]
  have hO2 : (f6.toList == ([] : List UInt8)) = O := hO
  clear hO
  have HB0 := Aside0.mk (below_alloc (Below.refl w.heap.size w) (.cells #[.int .i64 2, .string n0, .string n1, .int .u8 n2, .int .i64 n3, .int .i64 n4, .int .i64 n5, .int .i64 n6, .string n7, .int .i64 f2, .int .i64 f3, .string f4, .string f5, .string f6] 49))
  have HX0 := Aside0.mk (heap_alloc_new w (.cells #[.int .i64 2, .string n0, .string n1, .int .u8 n2, .int .i64 n3, .int .i64 n4, .int .i64 n5, .int .i64 n6, .string n7, .int .i64 f2, .int .i64 f3, .string f4, .string f5, .string f6] 49))
  obtain ⟨z0_0, z1_0, z2_0, z3_0, z4_0, z5_0, z6_0, z7_0, z8_0, z9_0, z10_0, z11_0, z12_0, z13_0⟩ := cells14 HX0.out
  go_enter Tryz.func37, Tryz.ntmps37
  cases E with
  | false =>
    go_wp2_with (fail)
    go_ret
    exact ⟨by first | rfl | simp, HB0.out⟩
  | true =>
    cases O with
    | false =>
      go_wp2_with (fail)
      go_ret
      exact ⟨by first | rfl | simp, HB0.out⟩
    | true =>
      cases C with
      | false =>
        go_wp2_with (first | (have _t := HB0; go_at_call 58; (with_reducible refine (hin _).mono ?_); rintro e w1 ⟨rfl, hb⟩; have hb := Drawn0.below hb; have HB1 := Aside0.mk (below_step HB0.out hb); have HX1 := Aside0.mk (blk_below HX0.out hb); clear hb HB0; obtain ⟨z0_1, z1_1, z2_1, z3_1, z4_1, z5_1, z6_1, z7_1, z8_1, z9_1, z10_1, z11_1, z12_1, z13_1⟩ := cells14 HX1.out))
        go_ret
        exact ⟨by first | rfl | simp, HB1.out⟩
      | true =>
        go_wp2_with (first | (have _t := HB0; go_at_call 58; (with_reducible refine (hin _).mono ?_); rintro e w1 ⟨rfl, hb⟩; have hb := Drawn0.below hb; have HB1 := Aside0.mk (below_step HB0.out hb); have HX1 := Aside0.mk (blk_below HX0.out hb); clear hb HB0; obtain ⟨z0_1, z1_1, z2_1, z3_1, z4_1, z5_1, z6_1, z7_1, z8_1, z9_1, z10_1, z11_1, z12_1, z13_1⟩ := cells14 HX1.out) | (have _t := HB1; go_at_call 57; (with_reducible refine (hwd _).mono ?_); rintro e w2 ⟨rfl, hb⟩; have HB2 := Aside0.mk (below_step HB1.out hb); have HX2 := Aside0.mk (blk_below HX1.out hb); clear hb HB1; obtain ⟨z0_2, z1_2, z2_2, z3_2, z4_2, z5_2, z6_2, z7_2, z8_2, z9_2, z10_2, z11_2, z12_2, z13_2⟩ := cells14 HX2.out))
        go_ret
        exact ⟨by first | rfl | simp, HB2.out⟩
set_option maxHeartbeats 3200000 in
theorem may_3 (n0 n1 : ByteArray) (n2 n3 n4 n5 n6 : Int) (n7 : ByteArray) (f2 f3 : Int) (f4 f5 f6 : ByteArray) (h0 : n0.size ≤ 9223372036854775807) (h1 : n1.size ≤ 9223372036854775807) (w : World) :
    Calls Tryz.prog 37 #[.agg #[.int .i64 3, .string n0, .string n1, .int .u8 n2, .int .i64 n3, .int .i64 n4, .int .i64 n5, .int .i64 n6, .string n7, .int .i64 f2, .int .i64 f3, .string f4, .string f5, .string f6]] w fun e w' => e = .returned (.bool (mayS ⟨3, ⟨n0, n1, n2, n3, n4, n5, n6, n7⟩, f2, f3, f4, f5, f6⟩)) ∧ Below w.heap.size w w' := by
  unfold mayS
  dsimp only
  rw [if_neg (by decide)]
  rw [if_neg (by decide)]
  rw [if_neg (by decide)]
  rw [if_pos rfl]
  have hone := fun W => tree_One.calls n0 n1 n2 n3 n4 n5 n6 n7 _ W (one_b ⟨n0, n1, n2, n3, n4, n5, n6, n7⟩ h0 h1)
  have hin1 := fun W => parse_in.calls f2 1 4000 _ W (in_f f2 1 4000)
  have hin2 := fun W => parse_in.calls f3 1 f2 _ W (in_f f3 1 f2)
  have heq : ∀ (d : Nat) (W : World), (Op.equalIn (d + 3) 49 (.agg #[.int .i64 3, .string n0, .string n1, .int .u8 n2, .int .i64 n3, .int .i64 n4, .int .i64 n5, .int .i64 n6, .string n7, .int .i64 f2, .int .i64 f3, .string f4, .string f5, .string f6]) (.agg #[.int .i64 3, .string n0, .string n1, .int .u8 n2, .int .i64 n3, .int .i64 n4, .int .i64 n5, .int .i64 n6, .string n7, .int .i64 f2, .int .i64 f3, .string ⟨#[]⟩, .string ⟨#[]⟩, .string ⟨#[]⟩])).run Tryz.prog W = .ok (eqSt ⟨3, ⟨n0, n1, n2, n3, n4, n5, n6, n7⟩, f2, f3, f4, f5, f6⟩ ⟨3, ⟨n0, n1, n2, n3, n4, n5, n6, n7⟩, f2, f3, ⟨#[]⟩, ⟨#[]⟩, ⟨#[]⟩⟩) W := fun d W => st_eq d W ⟨3, ⟨n0, n1, n2, n3, n4, n5, n6, n7⟩, f2, f3, f4, f5, f6⟩ ⟨3, ⟨n0, n1, n2, n3, n4, n5, n6, n7⟩, f2, f3, ⟨#[]⟩, ⟨#[]⟩, ⟨#[]⟩⟩
  generalize eqSt _ _ = E at *
  generalize oneB ⟨n0, n1, n2, n3, n4, n5, n6, n7⟩ = O at *
  obtain ⟨K, hK⟩ : ∃ K, (n2 == 48) = K := ⟨_, rfl⟩
  obtain ⟨D, hD⟩ : ∃ D, noT n7 = D := ⟨_, rfl⟩
  rw [hK, hD]
  have hD2 : (n7.toList == ([] : List UInt8)) = D := hD
  clear hD
  obtain ⟨C1, hC1⟩ : ∃ C, inB3 f2 1 4000 = C := ⟨_, rfl⟩
  obtain ⟨C2, hC2⟩ : ∃ C, inB3 f3 1 f2 = C := ⟨_, rfl⟩
  rw [hC1, hC2]
  rw [hC1] at hin1
  rw [hC2] at hin2
  have HB0 := Aside0.mk (below_alloc (Below.refl w.heap.size w) (.cells #[.int .i64 3, .string n0, .string n1, .int .u8 n2, .int .i64 n3, .int .i64 n4, .int .i64 n5, .int .i64 n6, .string n7, .int .i64 f2, .int .i64 f3, .string f4, .string f5, .string f6] 49))
  have HX0 := Aside0.mk (heap_alloc_new w (.cells #[.int .i64 3, .string n0, .string n1, .int .u8 n2, .int .i64 n3, .int .i64 n4, .int .i64 n5, .int .i64 n6, .string n7, .int .i64 f2, .int .i64 f3, .string f4, .string f5, .string f6] 49))
  obtain ⟨z0_0, z1_0, z2_0, z3_0, z4_0, z5_0, z6_0, z7_0, z8_0, z9_0, z10_0, z11_0, z12_0, z13_0⟩ := cells14 HX0.out
  go_enter Tryz.func37, Tryz.ntmps37
  cases E with
  | false =>
    clear hC1 hC2
    go_wp2_with (fail)
    go_ret
    exact ⟨by first | rfl | simp, HB0.out⟩
  | true =>
    cases K with
    | false =>
      clear hC1 hC2
      go_wp2_with (fail)
      go_ret
      exact ⟨by first | rfl | simp, HB0.out⟩
    | true =>
      cases D with
      | false =>
        clear hC1 hC2
        go_wp2_with (fail)
        go_ret
        exact ⟨by first | rfl | simp, HB0.out⟩
      | true =>
        cases O with
        | false =>
          clear hC1 hC2
          go_wp2_with (first | (have _t := HB0; go_at_call 30; (with_reducible refine (hone _).mono ?_); rintro e w1 ⟨rfl, hb⟩; have HB1 := Aside0.mk (below_step HB0.out hb); have HX1 := Aside0.mk (blk_below HX0.out hb); clear hb HB0; obtain ⟨z0_1, z1_1, z2_1, z3_1, z4_1, z5_1, z6_1, z7_1, z8_1, z9_1, z10_1, z11_1, z12_1, z13_1⟩ := cells14 HX1.out))
          go_ret
          exact ⟨by first | rfl | simp, HB1.out⟩
        | true =>
          cases C1 with
          | false =>
            clear hC1 hC2
            go_wp2_with (first | (have _t := HB0; go_at_call 30; (with_reducible refine (hone _).mono ?_); rintro e w1 ⟨rfl, hb⟩; have HB1 := Aside0.mk (below_step HB0.out hb); have HX1 := Aside0.mk (blk_below HX0.out hb); clear hb HB0; obtain ⟨z0_1, z1_1, z2_1, z3_1, z4_1, z5_1, z6_1, z7_1, z8_1, z9_1, z10_1, z11_1, z12_1, z13_1⟩ := cells14 HX1.out) | (have _t := HB1; go_at_call 58; (with_reducible refine (hin1 _).mono ?_); rintro e w2 ⟨rfl, hb⟩; have hb := Drawn0.below hb; have HB2 := Aside0.mk (below_step HB1.out hb); have HX2 := Aside0.mk (blk_below HX1.out hb); clear hb HB1; obtain ⟨z0_2, z1_2, z2_2, z3_2, z4_2, z5_2, z6_2, z7_2, z8_2, z9_2, z10_2, z11_2, z12_2, z13_2⟩ := cells14 HX2.out))
            go_ret
            exact ⟨by first | rfl | simp, HB2.out⟩
          | true =>
            cases C2 with
            | false =>
              clear hC1 hC2
              go_wp2_with (first | (have _t := HB0; go_at_call 30; (with_reducible refine (hone _).mono ?_); rintro e w1 ⟨rfl, hb⟩; have HB1 := Aside0.mk (below_step HB0.out hb); have HX1 := Aside0.mk (blk_below HX0.out hb); clear hb HB0; obtain ⟨z0_1, z1_1, z2_1, z3_1, z4_1, z5_1, z6_1, z7_1, z8_1, z9_1, z10_1, z11_1, z12_1, z13_1⟩ := cells14 HX1.out) | (have _t := HB1; go_at_call 58; (with_reducible refine (hin1 _).mono ?_); rintro e w2 ⟨rfl, hb⟩; have hb := Drawn0.below hb; have HB2 := Aside0.mk (below_step HB1.out hb); have HX2 := Aside0.mk (blk_below HX1.out hb); clear hb HB1; obtain ⟨z0_2, z1_2, z2_2, z3_2, z4_2, z5_2, z6_2, z7_2, z8_2, z9_2, z10_2, z11_2, z12_2, z13_2⟩ := cells14 HX2.out) | (have _t := HB2; go_at_call 58; (with_reducible refine (hin2 _).mono ?_); rintro e w3 ⟨rfl, hb⟩; have hb := Drawn0.below hb; have HB3 := Aside0.mk (below_step HB2.out hb); have HX3 := Aside0.mk (blk_below HX2.out hb); clear hb HB2; obtain ⟨z0_3, z1_3, z2_3, z3_3, z4_3, z5_3, z6_3, z7_3, z8_3, z9_3, z10_3, z11_3, z12_3, z13_3⟩ := cells14 HX3.out))
              go_ret
              exact ⟨by first | rfl | simp, HB3.out⟩
            | true =>
              have q1 : 1 ≤ f2 ∧ f2 ≤ 4000 ∧ 1 ≤ f3 ∧ f3 ≤ f2 := by
                unfold inB3 at hC1 hC2
                rw [Bool.and_eq_true, decide_eq_true_eq, decide_eq_true_eq] at hC1 hC2
                omega
              have q2 : IntKind.i64.wrap (f2 - f3) = f2 - f3 := by rw [i64_w, wrap_id (by omega) (by omega)]
              have q4 := Int.tmod_eq_emod_of_nonneg (a := f2 - f3) (b := 512) (by omega)
              have q3 : IntKind.i64.wrap ((f2 - f3).tmod 512) = (f2 - f3).tmod 512 := by rw [q4, i64_w, wrap_id (by omega) (by omega)]
              clear q4
              clear hC1 hC2 q1
              go_wp2_with (first | (have _t := HB0; go_at_call 30; (with_reducible refine (hone _).mono ?_); rintro e w1 ⟨rfl, hb⟩; have HB1 := Aside0.mk (below_step HB0.out hb); have HX1 := Aside0.mk (blk_below HX0.out hb); clear hb HB0; obtain ⟨z0_1, z1_1, z2_1, z3_1, z4_1, z5_1, z6_1, z7_1, z8_1, z9_1, z10_1, z11_1, z12_1, z13_1⟩ := cells14 HX1.out) | (have _t := HB1; go_at_call 58; (with_reducible refine (hin1 _).mono ?_); rintro e w2 ⟨rfl, hb⟩; have hb := Drawn0.below hb; have HB2 := Aside0.mk (below_step HB1.out hb); have HX2 := Aside0.mk (blk_below HX1.out hb); clear hb HB1; obtain ⟨z0_2, z1_2, z2_2, z3_2, z4_2, z5_2, z6_2, z7_2, z8_2, z9_2, z10_2, z11_2, z12_2, z13_2⟩ := cells14 HX2.out) | (have _t := HB2; go_at_call 58; (with_reducible refine (hin2 _).mono ?_); rintro e w3 ⟨rfl, hb⟩; have hb := Drawn0.below hb; have HB3 := Aside0.mk (below_step HB2.out hb); have HX3 := Aside0.mk (blk_below HX2.out hb); clear hb HB2; obtain ⟨z0_3, z1_3, z2_3, z3_3, z4_3, z5_3, z6_3, z7_3, z8_3, z9_3, z10_3, z11_3, z12_3, z13_3⟩ := cells14 HX3.out))
              go_ret
              exact ⟨by first | rfl | simp, HB3.out⟩
set_option maxHeartbeats 3200000 in
theorem may_4 (n0 n1 : ByteArray) (n2 n3 n4 n5 n6 : Int) (n7 : ByteArray) (f2 f3 : Int) (f4 f5 f6 : ByteArray) (h0 : n0.size ≤ 9223372036854775807) (h1 : n1.size ≤ 9223372036854775807) (w : World) :
    Calls Tryz.prog 37 #[.agg #[.int .i64 4, .string n0, .string n1, .int .u8 n2, .int .i64 n3, .int .i64 n4, .int .i64 n5, .int .i64 n6, .string n7, .int .i64 f2, .int .i64 f3, .string f4, .string f5, .string f6]] w fun e w' => e = .returned (.bool (mayS ⟨4, ⟨n0, n1, n2, n3, n4, n5, n6, n7⟩, f2, f3, f4, f5, f6⟩)) ∧ Below w.heap.size w w' := by
  unfold mayS
  dsimp only
  rw [if_neg (by decide)]
  rw [if_neg (by decide)]
  rw [if_neg (by decide)]
  rw [if_neg (by decide)]
  rw [if_pos rfl]
  have heq : ∀ (d : Nat) (W : World), (Op.equalIn (d + 3) 49 (.agg #[.int .i64 4, .string n0, .string n1, .int .u8 n2, .int .i64 n3, .int .i64 n4, .int .i64 n5, .int .i64 n6, .string n7, .int .i64 f2, .int .i64 f3, .string f4, .string f5, .string f6]) (.agg #[.int .i64 4, .string ⟨#[]⟩, .string ⟨#[]⟩, .int .u8 0, .int .i64 0, .int .i64 0, .int .i64 0, .int .i64 0, .string ⟨#[]⟩, .int .i64 0, .int .i64 0, .string ⟨#[]⟩, .string ⟨#[]⟩, .string ⟨#[]⟩])).run Tryz.prog W = .ok (eqSt ⟨4, ⟨n0, n1, n2, n3, n4, n5, n6, n7⟩, f2, f3, f4, f5, f6⟩ ⟨4, nd00, 0, 0, ⟨#[]⟩, ⟨#[]⟩, ⟨#[]⟩⟩) W := fun d W => st_eq d W ⟨4, ⟨n0, n1, n2, n3, n4, n5, n6, n7⟩, f2, f3, f4, f5, f6⟩ ⟨4, nd00, 0, 0, ⟨#[]⟩, ⟨#[]⟩, ⟨#[]⟩⟩
  generalize eqSt _ _ = E at *
  have HB0 := Aside0.mk (below_alloc (Below.refl w.heap.size w) (.cells #[.int .i64 4, .string n0, .string n1, .int .u8 n2, .int .i64 n3, .int .i64 n4, .int .i64 n5, .int .i64 n6, .string n7, .int .i64 f2, .int .i64 f3, .string f4, .string f5, .string f6] 49))
  have HX0 := Aside0.mk (heap_alloc_new w (.cells #[.int .i64 4, .string n0, .string n1, .int .u8 n2, .int .i64 n3, .int .i64 n4, .int .i64 n5, .int .i64 n6, .string n7, .int .i64 f2, .int .i64 f3, .string f4, .string f5, .string f6] 49))
  obtain ⟨z0_0, z1_0, z2_0, z3_0, z4_0, z5_0, z6_0, z7_0, z8_0, z9_0, z10_0, z11_0, z12_0, z13_0⟩ := cells14 HX0.out
  go_enter Tryz.func37, Tryz.ntmps37
  go_wp2_with (fail)
  go_ret
  exact ⟨by first | rfl | simp, HB0.out⟩
set_option maxHeartbeats 3200000 in
theorem may_5 (n0 n1 : ByteArray) (n2 n3 n4 n5 n6 : Int) (n7 : ByteArray) (f2 f3 : Int) (f4 f5 f6 : ByteArray) (h0 : n0.size ≤ 9223372036854775807) (h1 : n1.size ≤ 9223372036854775807) (w : World) :
    Calls Tryz.prog 37 #[.agg #[.int .i64 5, .string n0, .string n1, .int .u8 n2, .int .i64 n3, .int .i64 n4, .int .i64 n5, .int .i64 n6, .string n7, .int .i64 f2, .int .i64 f3, .string f4, .string f5, .string f6]] w fun e w' => e = .returned (.bool (mayS ⟨5, ⟨n0, n1, n2, n3, n4, n5, n6, n7⟩, f2, f3, f4, f5, f6⟩)) ∧ Below w.heap.size w w' := by
  unfold mayS
  dsimp only
  rw [if_neg (by decide)]
  rw [if_neg (by decide)]
  rw [if_neg (by decide)]
  rw [if_neg (by decide)]
  rw [if_neg (by decide)]
  rw [if_pos rfl]
  have heq : ∀ (d : Nat) (W : World), (Op.equalIn (d + 3) 49 (.agg #[.int .i64 5, .string n0, .string n1, .int .u8 n2, .int .i64 n3, .int .i64 n4, .int .i64 n5, .int .i64 n6, .string n7, .int .i64 f2, .int .i64 f3, .string f4, .string f5, .string f6]) (.agg #[.int .i64 5, .string ⟨#[]⟩, .string ⟨#[]⟩, .int .u8 0, .int .i64 0, .int .i64 0, .int .i64 0, .int .i64 0, .string ⟨#[]⟩, .int .i64 0, .int .i64 0, .string ⟨#[]⟩, .string ⟨#[]⟩, .string ⟨#[]⟩])).run Tryz.prog W = .ok (eqSt ⟨5, ⟨n0, n1, n2, n3, n4, n5, n6, n7⟩, f2, f3, f4, f5, f6⟩ ⟨5, nd00, 0, 0, ⟨#[]⟩, ⟨#[]⟩, ⟨#[]⟩⟩) W := fun d W => st_eq d W ⟨5, ⟨n0, n1, n2, n3, n4, n5, n6, n7⟩, f2, f3, f4, f5, f6⟩ ⟨5, nd00, 0, 0, ⟨#[]⟩, ⟨#[]⟩, ⟨#[]⟩⟩
  generalize eqSt _ _ = E at *
  have HB0 := Aside0.mk (below_alloc (Below.refl w.heap.size w) (.cells #[.int .i64 5, .string n0, .string n1, .int .u8 n2, .int .i64 n3, .int .i64 n4, .int .i64 n5, .int .i64 n6, .string n7, .int .i64 f2, .int .i64 f3, .string f4, .string f5, .string f6] 49))
  have HX0 := Aside0.mk (heap_alloc_new w (.cells #[.int .i64 5, .string n0, .string n1, .int .u8 n2, .int .i64 n3, .int .i64 n4, .int .i64 n5, .int .i64 n6, .string n7, .int .i64 f2, .int .i64 f3, .string f4, .string f5, .string f6] 49))
  obtain ⟨z0_0, z1_0, z2_0, z3_0, z4_0, z5_0, z6_0, z7_0, z8_0, z9_0, z10_0, z11_0, z12_0, z13_0⟩ := cells14 HX0.out
  go_enter Tryz.func37, Tryz.ntmps37
  go_wp2_with (fail)
  go_ret
  exact ⟨by first | rfl | simp, HB0.out⟩
set_option maxHeartbeats 3200000 in
theorem may_6 (f0 : Int) (n0 n1 : ByteArray) (n2 n3 n4 n5 n6 : Int) (n7 : ByteArray) (f2 f3 : Int) (f4 f5 f6 : ByteArray) (h0 : n0.size ≤ 9223372036854775807) (h1 : n1.size ≤ 9223372036854775807) (w : World) (hp : f0 ≠ 0 ∧ f0 ≠ 1 ∧ f0 ≠ 2 ∧ f0 ≠ 3 ∧ f0 ≠ 4 ∧ f0 ≠ 5) :
    Calls Tryz.prog 37 #[.agg #[.int .i64 f0, .string n0, .string n1, .int .u8 n2, .int .i64 n3, .int .i64 n4, .int .i64 n5, .int .i64 n6, .string n7, .int .i64 f2, .int .i64 f3, .string f4, .string f5, .string f6]] w fun e w' => e = .returned (.bool (mayS ⟨f0, ⟨n0, n1, n2, n3, n4, n5, n6, n7⟩, f2, f3, f4, f5, f6⟩)) ∧ Below w.heap.size w w' := by
  unfold mayS
  obtain ⟨p0, p1, p2, p3, p4, p5⟩ := hp
  rw [if_neg p0, if_neg p1, if_neg p2, if_neg p3, if_neg p4, if_neg p5]
  have b0 : (f0 == 0) = false := beq_eq_false_iff_ne.2 p0
  have b1 : (f0 == 1) = false := beq_eq_false_iff_ne.2 p1
  have b2 : (f0 == 2) = false := beq_eq_false_iff_ne.2 p2
  have b3 : (f0 == 3) = false := beq_eq_false_iff_ne.2 p3
  have b4 : (f0 == 4) = false := beq_eq_false_iff_ne.2 p4
  have b5 : (f0 == 5) = false := beq_eq_false_iff_ne.2 p5
  clear p0 p1 p2 p3 p4 p5
  have HB0 := Aside0.mk (below_alloc (Below.refl w.heap.size w) (.cells #[.int .i64 f0, .string n0, .string n1, .int .u8 n2, .int .i64 n3, .int .i64 n4, .int .i64 n5, .int .i64 n6, .string n7, .int .i64 f2, .int .i64 f3, .string f4, .string f5, .string f6] 49))
  have HX0 := Aside0.mk (heap_alloc_new w (.cells #[.int .i64 f0, .string n0, .string n1, .int .u8 n2, .int .i64 n3, .int .i64 n4, .int .i64 n5, .int .i64 n6, .string n7, .int .i64 f2, .int .i64 f3, .string f4, .string f5, .string f6] 49))
  obtain ⟨z0_0, z1_0, z2_0, z3_0, z4_0, z5_0, z6_0, z7_0, z8_0, z9_0, z10_0, z11_0, z12_0, z13_0⟩ := cells14 HX0.out
  go_enter Tryz.func37, Tryz.ntmps37
  go_wp2_with (fail)
  go_ret
  exact ⟨by first | rfl | simp, HB0.out⟩
theorem parse_May.at_ (s : Pst) (h0 : s.f1.f0.size ≤ 9223372036854775807) (h1 : s.f1.f1.size ≤ 9223372036854775807) (w : World) :
    Calls Tryz.prog 37 #[.agg #[.int .i64 s.f0, .string s.f1.f0, .string s.f1.f1, .int .u8 s.f1.f2, .int .i64 s.f1.f3, .int .i64 s.f1.f4, .int .i64 s.f1.f5, .int .i64 s.f1.f6, .string s.f1.f7, .int .i64 s.f2, .int .i64 s.f3, .string s.f4, .string s.f5, .string s.f6]] w fun e w' => e = .returned (.bool (mayS s)) ∧ Below w.heap.size w w' := by
  obtain ⟨f0, ⟨n0, n1, n2, n3, n4, n5, n6, n7⟩, f2, f3, f4, f5, f6⟩ := s
  by_cases p0 : f0 = 0
  · subst p0; exact may_0 _ _ _ _ _ _ _ _ _ _ _ _ _ h0 h1 w
  by_cases p1 : f0 = 1
  · subst p1; exact may_1 _ _ _ _ _ _ _ _ _ _ _ _ _ h0 h1 w
  by_cases p2 : f0 = 2
  · subst p2; exact may_2 _ _ _ _ _ _ _ _ _ _ _ _ _ h0 h1 w
  by_cases p3 : f0 = 3
  · subst p3; exact may_3 _ _ _ _ _ _ _ _ _ _ _ _ _ h0 h1 w
  by_cases p4 : f0 = 4
  · subst p4; exact may_4 _ _ _ _ _ _ _ _ _ _ _ _ _ h0 h1 w
  by_cases p5 : f0 = 5
  · subst p5; exact may_5 _ _ _ _ _ _ _ _ _ _ _ _ _ h0 h1 w
  exact may_6 _ _ _ _ _ _ _ _ _ _ _ _ _ _ h0 h1 w ⟨p0, p1, p2, p3, p4, p5⟩
end Go.Proofs.YtpedagpcblnnhaaGreat.X
