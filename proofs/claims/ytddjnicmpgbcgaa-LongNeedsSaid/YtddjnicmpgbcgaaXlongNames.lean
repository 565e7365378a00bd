import Derived.Test.YtddjnicmpgbcgaaXK
import Derived.Test.YtddjnicmpgbcgaaXGpath
import Derived.Test.YtddjnicmpgbcgaaXlongNeeds
import Derived.Deep.RegionHeld3
import Derived.Laws.EntriesVeiled
import Derived.WalkSpells
namespace Go.Proofs.Ytddjnicmpgbcgaa.X
open Go.RowKit Go.Proofs.YtddjnicmpgbcgaaW.PrintWords Go.Proofs.YtddjnicmpgbcgaaW.PrintLast Go.Proofs.YtddjnicmpgbcgaaW.PrintMore
attribute [local go_sem] max2_int min2_int max_two min_two max_three min_three max_four min_four
set_option linter.unusedVariables false
set_option linter.unusedSimpArgs false

def shortB (s : ByteArray) : ByteArray := if 100 < s.size then s.extract 0 100 else s
set_option maxHeartbeats 1600000 in
theorem long_short.at_ (s : ByteArray) (w : World) :
    Calls Try.prog 68 #[.string s] w fun e w' => e = .returned (.string (shortB s)) ∧ w' = w := by
  unfold shortB
  by_cases c : 100 < s.size
  · rw [if_pos c]
    have c2 : (100 : Int) < (s.size : Int) := by omega
    have c3 : (100 : Int) ≤ (s.size : Int) := by omega
    go_enter Try.func68, Try.ntmps68
    go_wp2
    go_ret
    exact ⟨rfl, rfl⟩
  · rw [if_neg c]
    have c2 : ¬ (100 : Int) < (s.size : Int) := by omega
    go_enter Try.func68, Try.ntmps68
    go_wp2
    go_ret
    exact ⟨rfl, rfl⟩
def long_Names.f (a0 a1 : ByteArray) (a2 a3 a4 a5 a6 : Int) (a7 : ByteArray) : Option (ByteArray × ByteArray × ByteArray) :=
  (path_Split.f a0).bind fun p => (long_Needs.f a0 a1 a2 a3 a4 a5 a6 a7).bind fun q => some (if q.1 = true then shortB a0 else p.2.1, p.1, shortB a1)
set_option maxHeartbeats 1600000 in
set_option maxRecDepth 100000 in
theorem long_Names.calls (a0 a1 : ByteArray) (a2 a3 a4 a5 a6 : Int) (a7 : ByteArray) (r1 r2 r3 : ByteArray) (w : World) (h : long_Names.f a0 a1 a2 a3 a4 a5 a6 a7 = some (r1, r2, r3)) :
    Calls Try.prog 35 #[.agg #[.string a0, .string a1, .int .u8 a2, .int .i64 a3, .int .i64 a4, .int .i64 a5, .int .i64 a6, .string a7]] w fun e w' => e = .returned (.tuple #[.string r1, .string r2, .string r3]) ∧ Below w.heap.size w w' := by
  unfold long_Names.f at h
  replace h := Option.bind_eq_some_iff.1 h
  obtain ⟨⟨p1, p2, p3⟩, A1, h⟩ := h
  replace h := Option.bind_eq_some_iff.1 h
  obtain ⟨⟨q1, q2⟩, A2, h⟩ := h
  simp only at h
  have h := Option.some.inj h
  simp only [Prod.mk.injEq] at h
  obtain ⟨rfl, rfl, rfl⟩ := h
  have hsp := fun W => path_Split.calls a0 p1 p2 p3 W A1
  have hne := fun W => long_Needs.calls a0 a1 a2 a3 a4 a5 a6 a7 q1 q2 W A2
  have hsh := long_short.at_
  obtain ⟨s0, hs0⟩ : ∃ s, s = shortB a0 := ⟨_, rfl⟩
  obtain ⟨s1, hs1⟩ : ∃ s, s = shortB a1 := ⟨_, rfl⟩
  have hsh0 := fun W => hsh a0 W
  have hsh1 := fun W => hsh a1 W
  rw [← hs0] at hsh0 ⊢
  rw [← hs1] at hsh1 ⊢
  have HB := Aside0.mk (below_alloc (Below.refl w.heap.size w) (.cells #[.string a0, .string a1, .int .u8 a2, .int .i64 a3, .int .i64 a4, .int .i64 a5, .int .i64 a6, .string a7] 23))
  have HX := Aside0.mk (heap_alloc_new w (.cells #[.string a0, .string a1, .int .u8 a2, .int .i64 a3, .int .i64 a4, .int .i64 a5, .int .i64 a6, .string a7] 23))
  clear hs0 hs1 hsh A1 A2
  go_enter Try.func35, Try.ntmps35
  cases q1 with
  | true =>
    go_wp2_with (first | (go_at_call 42; refine (hsp _).mono ?_; rintro e w1 ⟨rfl, hb⟩; have HB1 := Aside0.mk (below_step HB.out hb); have HX1 := Aside0.mk (blk_below HX.out hb); clear hb; have z0x1 := (blk_cell HX1.out 0).trans (show _ = some (Value.string a0) from rfl); have z1x1 := (blk_cell HX1.out 1).trans (show _ = some (Value.string a1) from rfl); have z2x1 := (blk_cell HX1.out 2).trans (show _ = some (Value.int .u8 a2) from rfl); have z3x1 := (blk_cell HX1.out 3).trans (show _ = some (Value.int .i64 a3) from rfl); have z4x1 := (blk_cell HX1.out 4).trans (show _ = some (Value.int .i64 a4) from rfl); have z5x1 := (blk_cell HX1.out 5).trans (show _ = some (Value.int .i64 a5) from rfl); have z6x1 := (blk_cell HX1.out 6).trans (show _ = some (Value.int .i64 a6) from rfl); have z7x1 := (blk_cell HX1.out 7).trans (show _ = some (Value.string a7) from rfl)) | (go_at_call 33; refine (hne _).mono ?_; rintro e w2 ⟨rfl, hb⟩; have HB2 := Aside0.mk (below_step HB1.out hb); have HX2 := Aside0.mk (blk_below HX1.out hb); clear hb; have z0x2 := (blk_cell HX2.out 0).trans (show _ = some (Value.string a0) from rfl); have z1x2 := (blk_cell HX2.out 1).trans (show _ = some (Value.string a1) from rfl); have z2x2 := (blk_cell HX2.out 2).trans (show _ = some (Value.int .u8 a2) from rfl); have z3x2 := (blk_cell HX2.out 3).trans (show _ = some (Value.int .i64 a3) from rfl); have z4x2 := (blk_cell HX2.out 4).trans (show _ = some (Value.int .i64 a4) from rfl); have z5x2 := (blk_cell HX2.out 5).trans (show _ = some (Value.int .i64 a5) from rfl); have z6x2 := (blk_cell HX2.out 6).trans (show _ = some (Value.int .i64 a6) from rfl); have z7x2 := (blk_cell HX2.out 7).trans (show _ = some (Value.string a7) from rfl)) | (go_at_call 68; refine (hsh0 _).mono ?_; rintro e w3 ⟨rfl, rfl⟩) | (go_at_call 68; refine (hsh1 _).mono ?_; rintro e w3 ⟨rfl, rfl⟩))
    go_ret3
    exact ⟨rfl, HB2.out⟩
  | false =>
    go_wp2_with (first | (go_at_call 42; refine (hsp _).mono ?_; rintro e w1 ⟨rfl, hb⟩; have HB1 := Aside0.mk (below_step HB.out hb); have HX1 := Aside0.mk (blk_below HX.out hb); clear hb; have z0x1 := (blk_cell HX1.out 0).trans (show _ = some (Value.string a0) from rfl); have z1x1 := (blk_cell HX1.out 1).trans (show _ = some (Value.string a1) from rfl); have z2x1 := (blk_cell HX1.out 2).trans (show _ = some (Value.int .u8 a2) from rfl); have z3x1 := (blk_cell HX1.out 3).trans (show _ = some (Value.int .i64 a3) from rfl); have z4x1 := (blk_cell HX1.out 4).trans (show _ = some (Value.int .i64 a4) from rfl); have z5x1 := (blk_cell HX1.out 5).trans (show _ = some (Value.int .i64 a5) from rfl); have z6x1 := (blk_cell HX1.out 6).trans (show _ = some (Value.int .i64 a6) from rfl); have z7x1 := (blk_cell HX1.out 7).trans (show _ = some (Value.string a7) from rfl)) | (go_at_call 33; refine (hne _).mono ?_; rintro e w2 ⟨rfl, hb⟩; have HB2 := Aside0.mk (below_step HB1.out hb); have HX2 := Aside0.mk (blk_below HX1.out hb); clear hb; have z0x2 := (blk_cell HX2.out 0).trans (show _ = some (Value.string a0) from rfl); have z1x2 := (blk_cell HX2.out 1).trans (show _ = some (Value.string a1) from rfl); have z2x2 := (blk_cell HX2.out 2).trans (show _ = some (Value.int .u8 a2) from rfl); have z3x2 := (blk_cell HX2.out 3).trans (show _ = some (Value.int .i64 a3) from rfl); have z4x2 := (blk_cell HX2.out 4).trans (show _ = some (Value.int .i64 a4) from rfl); have z5x2 := (blk_cell HX2.out 5).trans (show _ = some (Value.int .i64 a5) from rfl); have z6x2 := (blk_cell HX2.out 6).trans (show _ = some (Value.int .i64 a6) from rfl); have z7x2 := (blk_cell HX2.out 7).trans (show _ = some (Value.string a7) from rfl)) | (go_at_call 68; refine (hsh1 _).mono ?_; rintro e w3 ⟨rfl, rfl⟩))
    go_ret3
    exact ⟨rfl, HB2.out⟩

end Go.Proofs.Ytddjnicmpgbcgaa.X
