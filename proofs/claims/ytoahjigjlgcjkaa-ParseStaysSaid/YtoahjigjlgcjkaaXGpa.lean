import Derived.Test.YtoahjigjlgcjkaaXK
import Derived.Test.YtoahjigjlgcjkaaXGlong
import Derived.Test.YtoahjigjlgcjkaaYAll
import Derived.Deep.RegionHeld3
import Derived.Laws.EntriesVeiled
import Derived.WalkSpells
namespace Go.Proofs.Ytoahjigjlgcjkaa.X
open Go.RowKit Go.Proofs.YtoahjigjlgcjkaaW.PrintWords Go.Proofs.YtoahjigjlgcjkaaW.PrintLast Go.Proofs.YtoahjigjlgcjkaaW.PrintMore
attribute [local go_sem] max2_int min2_int max_two min_two
set_option linter.unusedVariables false
set_option linter.unusedSimpArgs false

open Go.Proofs.YtoahjigjlgcjkaaY
set_option maxRecDepth 100000
/-- No text, or a long one. -/
def wordO (s : ByteArray) : Option Bool := if s.toList = [] then some true else long_Text.f s
set_option maxHeartbeats 800000 in
theorem parse_words1.at_ (s : ByteArray) (r : Bool) (w : World) (h : wordO s = some r) :
    Calls Try.prog 55 #[.string s] w fun e w' => e = .returned (.bool r) ∧ Drawn0 w w' := by
  unfold wordO at h
  by_cases c : s.toList = []
  · rw [if_pos c] at h
    obtain rfl := Option.some.inj h
    have c1 : (s.toList == []) = true := beq_iff_eq.2 c
    go_enter Try.func55, Try.ntmps55
    go_wp2
    go_ret
    exact ⟨by first | rfl | simp [c], Drawn0.refl _⟩
  · rw [if_neg c] at h
    have hl := fun W => long_Text.calls s r W h
    have c1 : (s.toList == []) = false := beq_eq_false_iff_ne.2 c
    clear h
    go_enter Try.func55, Try.ntmps55
    go_wp2_with (first | (go_at_call 52; refine (hl _).mono ?_; rintro e w1 ⟨rfl, hb⟩; have HB1 := Aside0.mk hb; clear hb))
    go_ret
    exact ⟨rfl, HB1.out⟩
end Go.Proofs.Ytoahjigjlgcjkaa.X
namespace Go.Proofs.Ytoahjigjlgcjkaa.X
open Go.RowKit Go.Proofs.YtoahjigjlgcjkaaW.PrintWords Go.Proofs.YtoahjigjlgcjkaaW.PrintLast Go.Proofs.YtoahjigjlgcjkaaW.PrintMore
attribute [local go_sem] max2_int min2_int max_two min_two
set_option linter.unusedVariables false
set_option linter.unusedSimpArgs false

open Go.Proofs.YtoahjigjlgcjkaaY
set_option maxRecDepth 100000
def parse_words.f (a0_0 : Int) (a0_1 a0_2 : ByteArray) (a0_3 a0_4 a0_5 a0_6 a0_7 : Int) (a0_8 : ByteArray) (a0_9 a0_10 : Int) (a0_11 a0_12 a0_13 : ByteArray) : Option Bool := (wordO a0_12).bind fun t => if t = true then wordO a0_13 else some false
set_option maxHeartbeats 1600000 in
theorem parse_words.calls (a0_0 : Int) (a0_1 a0_2 : ByteArray) (a0_3 a0_4 a0_5 a0_6 a0_7 : Int) (a0_8 : ByteArray) (a0_9 a0_10 : Int) (a0_11 a0_12 a0_13 : ByteArray) (r : Bool) (w : World) (h : parse_words.f a0_0 a0_1 a0_2 a0_3 a0_4 a0_5 a0_6 a0_7 a0_8 a0_9 a0_10 a0_11 a0_12 a0_13 = some r) :
    Calls Try.prog 31 #[.agg #[.int .i64 a0_0, .string a0_1, .string a0_2, .int .u8 a0_3, .int .i64 a0_4, .int .i64 a0_5, .int .i64 a0_6, .int .i64 a0_7, .string a0_8, .int .i64 a0_9, .int .i64 a0_10, .string a0_11, .string a0_12, .string a0_13]] w fun e w' => e = .returned (.bool r) ∧ Below w.heap.size w w' := by
  unfold parse_words.f at h
  obtain ⟨t, h1, h⟩ := Option.bind_eq_some_iff.1 h
  have h1 := fun W => parse_words1.at_ a0_12 t W h1
  have HB0 := Aside0.mk (below_alloc (Below.refl w.heap.size w) (.cells #[.int .i64 a0_0, .string a0_1, .string a0_2, .int .u8 a0_3, .int .i64 a0_4, .int .i64 a0_5, .int .i64 a0_6, .int .i64 a0_7, .string a0_8, .int .i64 a0_9, .int .i64 a0_10, .string a0_11, .string a0_12, .string a0_13] 25))
  have HX0 := Aside0.mk (heap_alloc_new w (.cells #[.int .i64 a0_0, .string a0_1, .string a0_2, .int .u8 a0_3, .int .i64 a0_4, .int .i64 a0_5, .int .i64 a0_6, .int .i64 a0_7, .string a0_8, .int .i64 a0_9, .int .i64 a0_10, .string a0_11, .string a0_12, .string a0_13] 25))
  cases t with
  | false =>
    rw [if_neg (by decide)] at h
    obtain rfl := Option.some.inj h
    clear h
    go_enter Try.func31, Try.ntmps31
    go_wp2_with (first | (have _t := HB0; go_at_call 55; refine (h1 _).mono ?_; rintro e w1 ⟨rfl, hd⟩; have hb := Drawn0.below hd; have HB1 := Aside0.mk (below_step HB0.out hb); have HX1 := Aside0.mk (blk_below HX0.out hb); clear hb hd; have z12_1 := (blk_cell HX1.out 12).trans (show _ = some (Value.string a0_12) from rfl); have z13_1 := (blk_cell HX1.out 13).trans (show _ = some (Value.string a0_13) from rfl); clear HB0))
    go_ret
    exact ⟨rfl, HB1.out⟩
  | true =>
    rw [if_pos rfl] at h
    have h2 := fun W => parse_words1.at_ a0_13 r W h
    clear h
    go_enter Try.func31, Try.ntmps31
    go_wp2_with (first | (have _t := HB0; go_at_call 55; refine (h1 _).mono ?_; rintro e w1 ⟨rfl, hd⟩; have hb := Drawn0.below hd; have HB1 := Aside0.mk (below_step HB0.out hb); have HX1 := Aside0.mk (blk_below HX0.out hb); clear hb hd; have z12_1 := (blk_cell HX1.out 12).trans (show _ = some (Value.string a0_12) from rfl); have z13_1 := (blk_cell HX1.out 13).trans (show _ = some (Value.string a0_13) from rfl); clear HB0) | (have _t := HB1; go_at_call 55; refine (h2 _).mono ?_; rintro e w2 ⟨rfl, hd⟩; have hb := Drawn0.below hd; have HB2 := Aside0.mk (below_step HB1.out hb); have HX2 := Aside0.mk (blk_below HX1.out hb); clear hb hd; have z12_2 := (blk_cell HX2.out 12).trans (show _ = some (Value.string a0_12) from rfl); have z13_2 := (blk_cell HX2.out 13).trans (show _ = some (Value.string a0_13) from rfl); clear HB1))
    go_ret
    exact ⟨rfl, HB2.out⟩

end Go.Proofs.Ytoahjigjlgcjkaa.X
