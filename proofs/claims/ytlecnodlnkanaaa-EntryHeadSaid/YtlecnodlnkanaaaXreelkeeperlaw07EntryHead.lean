import Derived.Test.YtlecnodlnkanaaaXK
import Derived.Test.YtlecnodlnkanaaaXE27
import Derived.Test.YtlecnodlnkanaaaXGblock
import Derived.Test.YtlecnodlnkanaaaXGentry
import Derived.Test.YtlecnodlnkanaaaXGhead
import Derived.Test.YtlecnodlnkanaaaXGheadGet
import Derived.Test.YtlecnodlnkanaaaXGslices
import Derived.Test.YtlecnodlnkanaaaXGtext
import Derived.Test.YtlecnodlnkanaaaXGtree
import Derived.Test.YtlecnodlnkanaaaXreelkeeperlaw05Few
import Derived.Test.YtlecnodlnkanaaaXreelkeeperlaw07awake
import Derived.Test.YtlecnodlnkanaaaP04f
import Derived.Test.YtlecnodlnkanaaaP04g
import Derived.Test.YtlecnodlnkanaaaPGA
import Derived.Test.YtlecnodlnkanaaaPGE
import Derived.Deep.RegionHeld3
import Derived.Laws.EntriesVeiled
import Derived.WalkSpells
namespace Go.Proofs.Ytlecnodlnkanaaa.X
open Go.RowKit Go.Proofs.YtlecnodlnkanaaaW.PrintWords Go.Proofs.YtlecnodlnkanaaaW.PrintLast Go.Proofs.YtlecnodlnkanaaaW.PrintMore
attribute [local go_sem] max2_int min2_int max_two min_two
set_option linter.unusedVariables false
set_option linter.unusedSimpArgs false

attribute [local go_sem high] eqA27
open Go.Proofs.YtlecnodlnkanaaaY
def reelkeeperlaw07_EntryHead.f (k : Nat) (a0_0 a0_1 : ByteArray) (a0_2 a0_3 a0_4 a0_5 a0_6 : Int) (a0_7 : ByteArray) : Option Bool := some true
theorem EntryHead_told (n : Nd) : ∃ k, reelkeeperlaw07_EntryHead.f k n.f0 n.f1 n.f2 n.f3 n.f4 n.f5 n.f6 n.f7 = some true := ⟨0, rfl⟩
set_option maxHeartbeats 1600000 in
set_option maxRecDepth 100000 in
theorem EntryHead_no (a0_0 a0_1 : ByteArray) (a0_2 a0_3 a0_4 a0_5 a0_6 : Int) (a0_7 : ByteArray) (w : World)
    (hfew : ∀ W, Calls Try.prog 22 #[.agg #[.string a0_0, .string a0_1, .int .u8 a0_2, .int .i64 a0_3, .int .i64 a0_4, .int .i64 a0_5, .int .i64 a0_6, .string a0_7]] W fun e w' => e = .returned (.bool true) ∧ Below W.heap.size W w')
    (hhead : ∀ W, Calls Try.prog 23 #[.agg #[.string a0_0, .string a0_1, .int .u8 a0_2, .int .i64 a0_3, .int .i64 a0_4, .int .i64 a0_5, .int .i64 a0_6, .string a0_7]] W fun e w' => e = .returned (.tuple #[.agg #[.string ⟨#[]⟩, .string ⟨#[]⟩, .string ⟨#[]⟩, .int .i64 0, .int .i64 0, .int .i64 0, .int .i64 0, .int .i64 0, .int .u8 0, .int .i64 0, .int .i64 0], .bool false]) ∧ Below W.heap.size W w')
    (hput : ∀ W, Calls Try.prog 25 #[.agg #[.string a0_0, .string a0_1, .int .u8 a0_2, .int .i64 a0_3, .int .i64 a0_4, .int .i64 a0_5, .int .i64 a0_6, .string a0_7]] W fun e w' => ∃ A c, e = .returned (.tuple #[.slice A 0 c, .bool false]) ∧ Aside0 (Kd.C kRow w' A 0 []) ∧ Aside0 (0 ≤ c) ∧ Below W.heap.size W w')
    (hone : ∀ W, Calls Try.prog 32 #[.agg #[.string a0_0, .string a0_1, .int .u8 a0_2, .int .i64 a0_3, .int .i64 a0_4, .int .i64 a0_5, .int .i64 a0_6, .string a0_7]] W fun e w' => e = .returned (.bool false) ∧ Below W.heap.size W w')
    (hmany : ∀ W, Calls Try.prog 28 #[.agg #[.string a0_0, .string a0_1, .int .u8 a0_2, .int .i64 a0_3, .int .i64 a0_4, .int .i64 a0_5, .int .i64 a0_6, .string a0_7]] W fun e w' => e = .returned (.int .i64 0) ∧ Below W.heap.size W w') :
    Calls Try.prog 9 #[.agg #[.string a0_0, .string a0_1, .int .u8 a0_2, .int .i64 a0_3, .int .i64 a0_4, .int .i64 a0_5, .int .i64 a0_6, .string a0_7]] w fun e w' => e = .returned (.bool true) ∧ Below w.heap.size w w' := by
  have hup := fun W => awake7.at_ W
  have HB0 := Aside0.mk (Below.refl w.heap.size w)
  have HB0 := Aside0.mk (below_alloc HB0.out (.cells #[.string a0_0, .string a0_1, .int .u8 a0_2, .int .i64 a0_3, .int .i64 a0_4, .int .i64 a0_5, .int .i64 a0_6, .string a0_7] 23))
  have HXn_0 := Aside0.mk (heap_alloc_new w (.cells #[.string a0_0, .string a0_1, .int .u8 a0_2, .int .i64 a0_3, .int .i64 a0_4, .int .i64 a0_5, .int .i64 a0_6, .string a0_7] 23))
  go_enter Try.func9, Try.ntmps9
  go_upto_region 8 with (first | (go_at_call 21; refine (hup _).mono ?_; rintro e w1 ⟨rfl, hb⟩; have HB1 := Aside0.mk (below_step (by repeat (first | exact HB0.out | apply below_alloc | apply pw_below_drewN | apply below_drew1)) hb); have HXn_1 := Aside0.mk (blk_below (by repeat (first | exact HXn_0.out | apply blk_alloc | apply blk_drewN | apply blk_drew)) hb); clear hb; obtain ⟨zn0_1, zn1_1, zn2_1, zn3_1, zn4_1, zn5_1, zn6_1, zn7_1⟩ := cells8 HXn_1.out) | (go_at_call 22; refine (hfew _).mono ?_; rintro e w2 ⟨rfl, hb⟩; have HB2 := Aside0.mk (below_step (by repeat (first | exact HB1.out | apply below_alloc | apply pw_below_drewN | apply below_drew1)) hb); have HXn_2 := Aside0.mk (blk_below (by repeat (first | exact HXn_1.out | apply blk_alloc | apply blk_drewN | apply blk_drew)) hb); clear hb; obtain ⟨zn0_2, zn1_2, zn2_2, zn3_2, zn4_2, zn5_2, zn6_2, zn7_2⟩ := cells8 HXn_2.out) | (go_at_call 23; refine (hhead _).mono ?_; rintro e w3 ⟨rfl, hb⟩; have HB3 := Aside0.mk (below_alloc (below_step HB2.out hb) (.cells #[.string ⟨#[]⟩, .string ⟨#[]⟩, .string ⟨#[]⟩, .int .i64 0, .int .i64 0, .int .i64 0, .int .i64 0, .int .i64 0, .int .u8 0, .int .i64 0, .int .i64 0] 27)); have HXn_3 := Aside0.mk (blk_alloc (blk_below HXn_2.out hb) (.cells #[.string ⟨#[]⟩, .string ⟨#[]⟩, .string ⟨#[]⟩, .int .i64 0, .int .i64 0, .int .i64 0, .int .i64 0, .int .i64 0, .int .u8 0, .int .i64 0, .int .i64 0] 27)); have HXh_3 := Aside0.mk (heap_alloc_new w3 (.cells #[.string ⟨#[]⟩, .string ⟨#[]⟩, .string ⟨#[]⟩, .int .i64 0, .int .i64 0, .int .i64 0, .int .i64 0, .int .i64 0, .int .u8 0, .int .i64 0, .int .i64 0] 27)); clear hb; obtain ⟨zn0_3, zn1_3, zn2_3, zn3_3, zn4_3, zn5_3, zn6_3, zn7_3⟩ := cells8 HXn_3.out; obtain ⟨zh0_3, zh1_3, zh2_3, zh3_3, zh4_3, zh5_3, zh6_3, zh7_3, zh8_3, zh9_3, zh10_3⟩ := cells11 HXh_3.out) | (go_at_call 25; refine (hput _).mono ?_; rintro e w4 ⟨A4, c4, rfl, HCx, HLx, hb⟩; have HB4 := Aside0.mk (below_step (by repeat (first | exact HB3.out | apply below_alloc | apply pw_below_drewN | apply below_drew1)) hb); have HXn_4 := Aside0.mk (blk_below (by repeat (first | exact HXn_3.out | apply blk_alloc | apply blk_drewN | apply blk_drew)) hb); have HXh_4 := Aside0.mk (blk_below (by repeat (first | exact HXh_3.out | apply blk_alloc | apply blk_drewN | apply blk_drew)) hb); clear hb; obtain ⟨zn0_4, zn1_4, zn2_4, zn3_4, zn4_4, zn5_4, zn6_4, zn7_4⟩ := cells8 HXn_4.out; obtain ⟨zh0_4, zh1_4, zh2_4, zh3_4, zh4_4, zh5_4, zh6_4, zh7_4, zh8_4, zh9_4, zh10_4⟩ := cells11 HXh_4.out) | (go_at_call 32; refine (hone _).mono ?_; rintro e w5 ⟨rfl, hb⟩; have HB5 := Aside0.mk (below_step (by repeat (first | exact HB4.out | apply below_alloc | apply pw_below_drewN | apply below_drew1)) hb); have HXn_5 := Aside0.mk (blk_below (by repeat (first | exact HXn_4.out | apply blk_alloc | apply blk_drewN | apply blk_drew)) hb); have HXh_5 := Aside0.mk (blk_below (by repeat (first | exact HXh_4.out | apply blk_alloc | apply blk_drewN | apply blk_drew)) hb); clear hb; obtain ⟨zn0_5, zn1_5, zn2_5, zn3_5, zn4_5, zn5_5, zn6_5, zn7_5⟩ := cells8 HXn_5.out; obtain ⟨zh0_5, zh1_5, zh2_5, zh3_5, zh4_5, zh5_5, zh6_5, zh7_5, zh8_5, zh9_5, zh10_5⟩ := cells11 HXh_5.out))
  go_wp2_with (first | (go_at_call 32; refine (hone _).mono ?_; rintro e w6 ⟨rfl, hb⟩; have HB6 := Aside0.mk (below_step (by repeat (first | exact HB5.out | apply below_alloc | apply pw_below_drewN | apply below_drew1)) hb); have HXn_6 := Aside0.mk (blk_below (by repeat (first | exact HXn_5.out | apply blk_alloc | apply blk_drewN | apply blk_drew)) hb); have HXh_6 := Aside0.mk (blk_below (by repeat (first | exact HXh_5.out | apply blk_alloc | apply blk_drewN | apply blk_drew)) hb); clear hb; obtain ⟨zn0_6, zn1_6, zn2_6, zn3_6, zn4_6, zn5_6, zn6_6, zn7_6⟩ := cells8 HXn_6.out; obtain ⟨zh0_6, zh1_6, zh2_6, zh3_6, zh4_6, zh5_6, zh6_6, zh7_6, zh8_6, zh9_6, zh10_6⟩ := cells11 HXh_6.out) | (go_at_call 28; refine (hmany _).mono ?_; rintro e w7 ⟨rfl, hb⟩; have HB7 := Aside0.mk (below_step (by repeat (first | exact HB6.out | apply below_alloc | apply pw_below_drewN | apply below_drew1)) hb); have HXn_7 := Aside0.mk (blk_below (by repeat (first | exact HXn_6.out | apply blk_alloc | apply blk_drewN | apply blk_drew)) hb); have HXh_7 := Aside0.mk (blk_below (by repeat (first | exact HXh_6.out | apply blk_alloc | apply blk_drewN | apply blk_drew)) hb); clear hb; obtain ⟨zn0_7, zn1_7, zn2_7, zn3_7, zn4_7, zn5_7, zn6_7, zn7_7⟩ := cells8 HXn_7.out; obtain ⟨zh0_7, zh1_7, zh2_7, zh3_7, zh4_7, zh5_7, zh6_7, zh7_7, zh8_7, zh9_7, zh10_7⟩ := cells11 HXh_7.out))
  go_ret
  exact ⟨rfl, HB7.out⟩
set_option maxHeartbeats 3200000 in
set_option maxRecDepth 100000 in
theorem EntryHead_yes (a0_0 a0_1 : ByteArray) (a0_2 a0_3 a0_4 a0_5 a0_6 : Int) (a0_7 : ByteArray) (w : World) (x0 x1 x2 : ByteArray) (lx : List (List Int)) (x : List Int) (ry : List (List Int)) (al M : Nat) (hM : M ≤ 8) (hal : al ≤ 4) (hlen : lx.length = al + 1 + M) (hr0 : rdR lx al = x) (hr1 : lx.drop (al + 1) = ry)
    (hfew : ∀ W, Calls Try.prog 22 #[.agg #[.string a0_0, .string a0_1, .int .u8 a0_2, .int .i64 a0_3, .int .i64 a0_4, .int .i64 a0_5, .int .i64 a0_6, .string a0_7]] W fun e w' => e = .returned (.bool true) ∧ Below W.heap.size W w')
    (hhead : ∀ W, Calls Try.prog 23 #[.agg #[.string a0_0, .string a0_1, .int .u8 a0_2, .int .i64 a0_3, .int .i64 a0_4, .int .i64 a0_5, .int .i64 a0_6, .string a0_7]] W fun e w' => e = .returned (.tuple #[.agg #[.string x0, .string x1, .string x2, .int .i64 a0_3, .int .i64 a0_4, .int .i64 a0_5, .int .i64 (a0_7.size : Int), .int .i64 a0_6, .int .u8 a0_2, .int .i64 0, .int .i64 0], .bool true]) ∧ Below W.heap.size W w')
    (hput : ∀ W, Calls Try.prog 25 #[.agg #[.string a0_0, .string a0_1, .int .u8 a0_2, .int .i64 a0_3, .int .i64 a0_4, .int .i64 a0_5, .int .i64 a0_6, .string a0_7]] W fun e w' => ∃ A c, e = .returned (.tuple #[.slice A lx.length c, .bool true]) ∧ Aside0 (Kd.C kRow w' A lx.length lx) ∧ Aside0 (lx.length ≤ c) ∧ Below W.heap.size W w')
    (hone : ∀ W, Calls Try.prog 32 #[.agg #[.string a0_0, .string a0_1, .int .u8 a0_2, .int .i64 a0_3, .int .i64 a0_4, .int .i64 a0_5, .int .i64 a0_6, .string a0_7]] W fun e w' => e = .returned (.bool true) ∧ Below W.heap.size W w')
    (hdata : ∀ W, Calls Try.prog 30 #[.agg #[.string a0_0, .string a0_1, .int .u8 a0_2, .int .i64 a0_3, .int .i64 a0_4, .int .i64 a0_5, .int .i64 a0_6, .string a0_7]] W fun e w' => e = .returned (.int .i64 M) ∧ Below W.heap.size W w')
    (hmay : ∀ W A c, Kd.C kRow W A lx.length lx → lx.length ≤ c → Calls Try.prog 38 #[.slice A lx.length c] W fun e w' => e = .returned (.bool true) ∧ Drawn0 W w')
    (hget : ∀ W A c, Kd.C (Kd.int .u8) W A x.length x → x.length ≤ c → Calls Try.prog 36 #[.slice A x.length c] W fun e w' => e = .returned (.tuple #[.agg #[.string x0, .string x1, .string x2, .int .i64 a0_3, .int .i64 a0_4, .int .i64 a0_5, .int .i64 (a0_7.size : Int), .int .i64 a0_6, .int .u8 a0_2, .int .i64 0, .int .i64 0], .int .i64 0]) ∧ Below W.heap.size W w')
    (htext : ∀ W A c, Kd.C kRow W A ry.length ry → ry.length ≤ c → Calls Try.prog 37 #[.slice A ry.length c, .int .i64 (a0_7.size : Int)] W fun e w' => e = .returned (.tuple #[.string a0_7, .bool true]) ∧ Below W.heap.size W w')
    (hhmay : ∀ W, Calls Try.prog 39 #[.agg #[.string x0, .string x1, .string x2, .int .i64 a0_3, .int .i64 a0_4, .int .i64 a0_5, .int .i64 (a0_7.size : Int), .int .i64 a0_6, .int .u8 a0_2, .int .i64 0, .int .i64 0]] W fun e w' => e = .returned (.bool true) ∧ Below W.heap.size W w') :
    Calls Try.prog 9 #[.agg #[.string a0_0, .string a0_1, .int .u8 a0_2, .int .i64 a0_3, .int .i64 a0_4, .int .i64 a0_5, .int .i64 a0_6, .string a0_7]] w fun e w' => e = .returned (.bool true) ∧ Below w.heap.size w w' := by
  have hup := fun W => awake7.at_ W
  have HLEN := Aside0.mk hlen
  have HR0 := Aside0.mk hr0
  have HR1 := Aside0.mk hr1
  have q1 : IntKind.i64.wrap ((lx.length : Int) - (M : Int)) = (al : Int) + 1 := by rw [i64_w, hlen]; unfold wrap64; omega
  have q1' : (lx.length : Int) - (M : Int) = (al : Int) + 1 := by omega
  have q2 : (al : Int) + 1 - 1 = (al : Int) := by omega
  have q3 : (0 : Int) ≤ (al : Int) := by omega
  have q4 : (al : Int) < (lx.length : Int) := by omega
  have q5 : (al : Int) + 1 ≤ (lx.length : Int) := by omega
  have q6 : IntKind.i64.wrap ((al : Int) + 1) = (al : Int) + 1 := by rw [i64_w]; unfold wrap64; omega
  have q7 : decide ((lx.length : Int) ≤ (al : Int)) = false := decide_eq_false (by omega)
  clear hlen hr0 hr1
  have HB0 := Aside0.mk (Below.refl w.heap.size w)
  have HB0 := Aside0.mk (below_alloc HB0.out (.cells #[.string a0_0, .string a0_1, .int .u8 a0_2, .int .i64 a0_3, .int .i64 a0_4, .int .i64 a0_5, .int .i64 a0_6, .string a0_7] 23))
  have HXn_0 := Aside0.mk (heap_alloc_new w (.cells #[.string a0_0, .string a0_1, .int .u8 a0_2, .int .i64 a0_3, .int .i64 a0_4, .int .i64 a0_5, .int .i64 a0_6, .string a0_7] 23))
  go_enter Try.func9, Try.ntmps9
  go_upto_region 13 with (first | (go_at_call 21; refine (hup _).mono ?_; rintro e w1 ⟨rfl, hb⟩; have HB1 := Aside0.mk (below_step (by repeat (first | exact HB0.out | apply below_alloc | apply pw_below_drewN | apply below_drew1)) hb); have HXn_1 := Aside0.mk (blk_below (by repeat (first | exact HXn_0.out | apply blk_alloc | apply blk_drewN | apply blk_drew)) hb); clear hb; obtain ⟨zn0_1, zn1_1, zn2_1, zn3_1, zn4_1, zn5_1, zn6_1, zn7_1⟩ := cells8 HXn_1.out) | (go_at_call 22; refine (hfew _).mono ?_; rintro e w2 ⟨rfl, hb⟩; have HB2 := Aside0.mk (below_step (by repeat (first | exact HB1.out | apply below_alloc | apply pw_below_drewN | apply below_drew1)) hb); have HXn_2 := Aside0.mk (blk_below (by repeat (first | exact HXn_1.out | apply blk_alloc | apply blk_drewN | apply blk_drew)) hb); clear hb; obtain ⟨zn0_2, zn1_2, zn2_2, zn3_2, zn4_2, zn5_2, zn6_2, zn7_2⟩ := cells8 HXn_2.out) | (go_at_call 23; refine (hhead _).mono ?_; rintro e w3 ⟨rfl, hb⟩; have HB3 := Aside0.mk (below_alloc (below_step HB2.out hb) (.cells #[.string x0, .string x1, .string x2, .int .i64 a0_3, .int .i64 a0_4, .int .i64 a0_5, .int .i64 (a0_7.size : Int), .int .i64 a0_6, .int .u8 a0_2, .int .i64 0, .int .i64 0] 27)); have HXn_3 := Aside0.mk (blk_alloc (blk_below HXn_2.out hb) (.cells #[.string x0, .string x1, .string x2, .int .i64 a0_3, .int .i64 a0_4, .int .i64 a0_5, .int .i64 (a0_7.size : Int), .int .i64 a0_6, .int .u8 a0_2, .int .i64 0, .int .i64 0] 27)); have HXh_3 := Aside0.mk (heap_alloc_new w3 (.cells #[.string x0, .string x1, .string x2, .int .i64 a0_3, .int .i64 a0_4, .int .i64 a0_5, .int .i64 (a0_7.size : Int), .int .i64 a0_6, .int .u8 a0_2, .int .i64 0, .int .i64 0] 27)); clear hb; obtain ⟨zn0_3, zn1_3, zn2_3, zn3_3, zn4_3, zn5_3, zn6_3, zn7_3⟩ := cells8 HXn_3.out; obtain ⟨zh0_3, zh1_3, zh2_3, zh3_3, zh4_3, zh5_3, zh6_3, zh7_3, zh8_3, zh9_3, zh10_3⟩ := cells11 HXh_3.out) | (go_at_call 25; refine (hput _).mono ?_; rintro e w4 ⟨A4, c4, rfl, HCx, HLx, hb⟩; have HB4 := Aside0.mk (below_step (by repeat (first | exact HB3.out | apply below_alloc | apply pw_below_drewN | apply below_drew1)) hb); have HXn_4 := Aside0.mk (blk_below (by repeat (first | exact HXn_3.out | apply blk_alloc | apply blk_drewN | apply blk_drew)) hb); have HXh_4 := Aside0.mk (blk_below (by repeat (first | exact HXh_3.out | apply blk_alloc | apply blk_drewN | apply blk_drew)) hb); clear hb; obtain ⟨zn0_4, zn1_4, zn2_4, zn3_4, zn4_4, zn5_4, zn6_4, zn7_4⟩ := cells8 HXn_4.out; obtain ⟨zh0_4, zh1_4, zh2_4, zh3_4, zh4_4, zh5_4, zh6_4, zh7_4, zh8_4, zh9_4, zh10_4⟩ := cells11 HXh_4.out) | (go_at_call 32; refine (hone _).mono ?_; rintro e w5 ⟨rfl, hb⟩; have HB5 := Aside0.mk (below_step (by repeat (first | exact HB4.out | apply below_alloc | apply pw_below_drewN | apply below_drew1)) hb); have HXn_5 := Aside0.mk (blk_below (by repeat (first | exact HXn_4.out | apply blk_alloc | apply blk_drewN | apply blk_drew)) hb); have HXh_5 := Aside0.mk (blk_below (by repeat (first | exact HXh_4.out | apply blk_alloc | apply blk_drewN | apply blk_drew)) hb); have HCx_5 := Aside0.mk (Kd.C_below HCx.out hb); clear hb; obtain ⟨zn0_5, zn1_5, zn2_5, zn3_5, zn4_5, zn5_5, zn6_5, zn7_5⟩ := cells8 HXn_5.out; obtain ⟨zh0_5, zh1_5, zh2_5, zh3_5, zh4_5, zh5_5, zh6_5, zh7_5, zh8_5, zh9_5, zh10_5⟩ := cells11 HXh_5.out) | (go_at_call 30; refine (hdata _).mono ?_; rintro e w6 ⟨rfl, hb⟩; have HB6 := Aside0.mk (below_step (by repeat (first | exact HB5.out | apply below_alloc | apply pw_below_drewN | apply below_drew1)) hb); have HXn_6 := Aside0.mk (blk_below (by repeat (first | exact HXn_5.out | apply blk_alloc | apply blk_drewN | apply blk_drew)) hb); have HXh_6 := Aside0.mk (blk_below (by repeat (first | exact HXh_5.out | apply blk_alloc | apply blk_drewN | apply blk_drew)) hb); have HCx_6 := Aside0.mk (Kd.C_below HCx_5.out hb); obtain ⟨adx, B0, d0, rfl, hx0, hl0, hC0⟩ := at_row HCx_6.out al (by have := HLEN.out; omega); rw [HR0.out] at hx0 hl0 hC0; have HC0 := Aside0.mk hC0; have HL0 := Aside0.mk hl0; obtain ⟨A3, c3, hcut, hK, hc3⟩ := rows_drop c4 HCx_6.out HLx.out (al + 1) (by have := HLEN.out; omega); rw [HR1.out] at hcut hK hc3; rw [Int.natCast_add] at hcut; have hcut' : ∀ W, (Instr.slice 30 (.slice (some adx) lx.length c4) (some (.int .i64 ((al : Int) + 1))) none none).run Try.prog W = .ok (.slice A3 ry.length c3) W := hcut; have HK := Aside0.mk hK; have HC3 := Aside0.mk hc3; clear hC0 hl0 hcut hK hc3; clear hb; obtain ⟨zn0_6, zn1_6, zn2_6, zn3_6, zn4_6, zn5_6, zn6_6, zn7_6⟩ := cells8 HXn_6.out; obtain ⟨zh0_6, zh1_6, zh2_6, zh3_6, zh4_6, zh5_6, zh6_6, zh7_6, zh8_6, zh9_6, zh10_6⟩ := cells11 HXh_6.out) | (go_at_call 38; refine (hmay _ _ _ HCx_6.out HLx.out).mono ?_; rintro e w7 ⟨rfl, ⟨nd7, rfl⟩⟩) | (go_at_call 36; refine (hget _ _ _ (Kd.C_drewN HC0.out nd7) HL0.out).mono ?_; rintro e w8 ⟨rfl, hb⟩; have HB8 := Aside0.mk (below_alloc (below_step (pw_below_drewN HB6.out nd7) hb) (.cells #[.string x0, .string x1, .string x2, .int .i64 a0_3, .int .i64 a0_4, .int .i64 a0_5, .int .i64 (a0_7.size : Int), .int .i64 a0_6, .int .u8 a0_2, .int .i64 0, .int .i64 0] 27)); have HXn_8 := Aside0.mk (blk_alloc (blk_below (blk_drewN HXn_6.out nd7) hb) (.cells #[.string x0, .string x1, .string x2, .int .i64 a0_3, .int .i64 a0_4, .int .i64 a0_5, .int .i64 (a0_7.size : Int), .int .i64 a0_6, .int .u8 a0_2, .int .i64 0, .int .i64 0] 27)); have HXh_8 := Aside0.mk (blk_alloc (blk_below (blk_drewN HXh_6.out nd7) hb) (.cells #[.string x0, .string x1, .string x2, .int .i64 a0_3, .int .i64 a0_4, .int .i64 a0_5, .int .i64 (a0_7.size : Int), .int .i64 a0_6, .int .u8 a0_2, .int .i64 0, .int .i64 0] 27)); have HXg_8 := Aside0.mk (heap_alloc_new w8 (.cells #[.string x0, .string x1, .string x2, .int .i64 a0_3, .int .i64 a0_4, .int .i64 a0_5, .int .i64 (a0_7.size : Int), .int .i64 a0_6, .int .u8 a0_2, .int .i64 0, .int .i64 0] 27)); have HK_8 := Aside0.mk (Kd.C_alloc (Kd.C_below (Kd.C_drewN HK.out nd7) hb) (.cells #[.string x0, .string x1, .string x2, .int .i64 a0_3, .int .i64 a0_4, .int .i64 a0_5, .int .i64 (a0_7.size : Int), .int .i64 a0_6, .int .u8 a0_2, .int .i64 0, .int .i64 0] 27)); clear hb; obtain ⟨zn0_8, zn1_8, zn2_8, zn3_8, zn4_8, zn5_8, zn6_8, zn7_8⟩ := cells8 HXn_8.out; obtain ⟨zh0_8, zh1_8, zh2_8, zh3_8, zh4_8, zh5_8, zh6_8, zh7_8, zh8_8, zh9_8, zh10_8⟩ := cells11 HXh_8.out; obtain ⟨zg0_8, zg1_8, zg2_8, zg3_8, zg4_8, zg5_8, zg6_8, zg7_8, zg8_8, zg9_8, zg10_8⟩ := cells11 HXg_8.out))
  have zn7_8 := zn7_8
  have hzr := (blk_cell (blk_drew HXn_8.out) 7).trans (show _ = some (Value.string a0_7) from rfl)
  go_region_held3 (fun w' => w'.cell? ⟨w.heap.size, 7, none⟩ = some (Value.string a0_7)) (go_keep) (first | (go_at_call 37; refine (htext _ _ _ (Kd.C_drew HK_8.out) HC3.out).mono ?_; rintro e w9 ⟨rfl, hb⟩; have HB9 := Aside0.mk (below_step (below_drew1 HB8.out) hb); have HXn_9 := Aside0.mk (blk_below (blk_drew HXn_8.out) hb); have HXh_9 := Aside0.mk (blk_below (blk_drew HXh_8.out) hb); have HXg_9 := Aside0.mk (blk_below (blk_drew HXg_8.out) hb); have s7 := pw_cell_below hb zn7_8; clear hb; obtain ⟨zn0_9, zn1_9, zn2_9, zn3_9, zn4_9, zn5_9, zn6_9, zn7_9⟩ := cells8 HXn_9.out; obtain ⟨zh0_9, zh1_9, zh2_9, zh3_9, zh4_9, zh5_9, zh6_9, zh7_9, zh8_9, zh9_9, zh10_9⟩ := cells11 HXh_9.out; obtain ⟨zg0_9, zg1_9, zg2_9, zg3_9, zg4_9, zg5_9, zg6_9, zg7_9, zg8_9, zg9_9, zg10_9⟩ := cells11 HXg_9.out))
  go_wp2_with (first | (go_at_call 39; refine (hhmay _).mono ?_; rintro e w10 ⟨rfl, hb⟩; have HB10 := Aside0.mk (below_step (by repeat (first | exact HB9.out | apply below_drew1 | apply pw_below_drewN)) hb); have HXn_10 := Aside0.mk (blk_below (by repeat (first | exact HXn_9.out | apply blk_drewN | apply blk_drew)) hb); have HXh_10 := Aside0.mk (blk_below (by repeat (first | exact HXh_9.out | apply blk_drewN | apply blk_drew)) hb); clear hb; obtain ⟨zn0_10, zn1_10, zn2_10, zn3_10, zn4_10, zn5_10, zn6_10, zn7_10⟩ := cells8 HXn_10.out; obtain ⟨zh0_10, zh1_10, zh2_10, zh3_10, zh4_10, zh5_10, zh6_10, zh7_10, zh8_10, zh9_10, zh10_10⟩ := cells11 HXh_10.out))
  go_ret
  exact ⟨by simp, HB10.out⟩
set_option maxHeartbeats 1600000 in
set_option maxRecDepth 100000 in
theorem reelkeeperlaw07_EntryHead.calls (k : Nat) (a0_0 a0_1 : ByteArray) (a0_2 a0_3 a0_4 a0_5 a0_6 : Int) (a0_7 : ByteArray) (r : Bool) (w : World) (h : reelkeeperlaw07_EntryHead.f k a0_0 a0_1 a0_2 a0_3 a0_4 a0_5 a0_6 a0_7 = some r) :
    Calls Try.prog 9 #[.agg #[.string a0_0, .string a0_1, .int .u8 a0_2, .int .i64 a0_3, .int .i64 a0_4, .int .i64 a0_5, .int .i64 a0_6, .string a0_7]] w fun e w' => e = .returned (.bool r) ∧ Below w.heap.size w w' := by
  obtain rfl : true = r := Option.some.inj h
  clear h
  have hfew := fun W => reelkeeperlaw05_Few.calls a0_0 a0_1 a0_2 a0_3 a0_4 a0_5 a0_6 a0_7 _ W (few5 ⟨a0_0, a0_1, a0_2, a0_3, a0_4, a0_5, a0_6, a0_7⟩)
  have hup := fun W => awake7.at_ W
  cases hn : okN ⟨a0_0, a0_1, a0_2, a0_3, a0_4, a0_5, a0_6, a0_7⟩ with
  | false =>
    rw [hn] at hfew
    clear hn
    have HB0 := Aside0.mk (Below.refl w.heap.size w)
    have HB0 := Aside0.mk (below_alloc HB0.out (.cells #[.string a0_0, .string a0_1, .int .u8 a0_2, .int .i64 a0_3, .int .i64 a0_4, .int .i64 a0_5, .int .i64 a0_6, .string a0_7] 23))
    have HXn_0 := Aside0.mk (heap_alloc_new w (.cells #[.string a0_0, .string a0_1, .int .u8 a0_2, .int .i64 a0_3, .int .i64 a0_4, .int .i64 a0_5, .int .i64 a0_6, .string a0_7] 23))
    go_enter Try.func9, Try.ntmps9
    go_wp2_with (first | (go_at_call 21; refine (hup _).mono ?_; rintro e w1 ⟨rfl, hb⟩; have HB1 := Aside0.mk (below_step (by repeat (first | exact HB0.out | apply below_alloc | apply pw_below_drewN | apply below_drew1)) hb); have HXn_1 := Aside0.mk (blk_below (by repeat (first | exact HXn_0.out | apply blk_alloc | apply blk_drewN | apply blk_drew)) hb); clear hb; obtain ⟨zn0_1, zn1_1, zn2_1, zn3_1, zn4_1, zn5_1, zn6_1, zn7_1⟩ := cells8 HXn_1.out) | (go_at_call 22; refine (hfew _).mono ?_; rintro e w2 ⟨rfl, hb⟩; have HB2 := Aside0.mk (below_step (by repeat (first | exact HB1.out | apply below_alloc | apply pw_below_drewN | apply below_drew1)) hb); have HXn_2 := Aside0.mk (blk_below (by repeat (first | exact HXn_1.out | apply blk_alloc | apply blk_drewN | apply blk_drew)) hb); clear hb; obtain ⟨zn0_2, zn1_2, zn2_2, zn3_2, zn4_2, zn5_2, zn6_2, zn7_2⟩ := cells8 HXn_2.out))
    go_ret
    exact ⟨rfl, HB2.out⟩
  | true =>
  obtain ⟨h0, h1, _⟩ := okN_iff.1 hn
  rw [hn] at hfew
  have z0 : a0_0.size ≤ 10000 := Nat.le_trans h0 (by decide)
  have z1 : a0_1.size ≤ 10000 := Nat.le_trans h1 (by decide)
  have hb := one_b ⟨a0_0, a0_1, a0_2, a0_3, a0_4, a0_5, a0_6, a0_7⟩ (Nat.le_trans h0 (by decide)) (Nat.le_trans h1 (by decide))
  cases ho : oneB ⟨a0_0, a0_1, a0_2, a0_3, a0_4, a0_5, a0_6, a0_7⟩ with
  | false =>
    have hh : entry_Head.f a0_0 a0_1 a0_2 a0_3 a0_4 a0_5 a0_6 a0_7 = _ := entryHead_no (n := ⟨a0_0, a0_1, a0_2, a0_3, a0_4, a0_5, a0_6, a0_7⟩) z0 z1 ho
    have hp : entry_Put.f a0_0 a0_1 a0_2 a0_3 a0_4 a0_5 a0_6 a0_7 = some ([], false) := entryPut_no (n := ⟨a0_0, a0_1, a0_2, a0_3, a0_4, a0_5, a0_6, a0_7⟩) z0 z1 ho
    have hm : entry_Many.f a0_0 a0_1 a0_2 a0_3 a0_4 a0_5 a0_6 a0_7 = some 0 := by unfold entry_Many.f; rw [hp]; rfl
    exact EntryHead_no a0_0 a0_1 a0_2 a0_3 a0_4 a0_5 a0_6 a0_7 w hfew (fun W => entry_Head.calls a0_0 a0_1 a0_2 a0_3 a0_4 a0_5 a0_6 a0_7 _ _ _ _ _ _ _ _ _ _ _ _ W hh) (fun W => rows_flag (entry_Put.calls a0_0 a0_1 a0_2 a0_3 a0_4 a0_5 a0_6 a0_7 _ _ W hp)) (fun W => tree_One.calls a0_0 a0_1 a0_2 a0_3 a0_4 a0_5 a0_6 a0_7 false W (hb.trans (congrArg some ho))) (fun W => entry_Many.calls a0_0 a0_1 a0_2 a0_3 a0_4 a0_5 a0_6 a0_7 _ W hm)
  | true =>
    have hone := fun W => tree_One.calls a0_0 a0_1 a0_2 a0_3 a0_4 a0_5 a0_6 a0_7 true W (hb.trans (congrArg some ho))
    have hf : OneFacts ⟨a0_0, a0_1, a0_2, a0_3, a0_4, a0_5, a0_6, a0_7⟩ := oneB_facts ho
    have hh : entry_Head.f a0_0 a0_1 a0_2 a0_3 a0_4 a0_5 a0_6 a0_7 = _ := entryHead_yes ho
    have hp : entry_Put.f a0_0 a0_1 a0_2 a0_3 a0_4 a0_5 a0_6 a0_7 = some (entryB ⟨a0_0, a0_1, a0_2, a0_3, a0_4, a0_5, a0_6, a0_7⟩, true) := entryPut_yes ho
    have hl := entryB_length hf
    have hc := aheadB_count hf
    have hd := hf.data
    change a0_7.size ≤ 4000 at hd
    change (aheadB a0_0 a0_1).length = _ at hc
    change _ = (aheadB a0_0 a0_1).length + 1 + manyB a0_7.size at hl
    have hal : (aheadB a0_0 a0_1).length ≤ 4 := by rw [hc]; split <;> split <;> omega
    have h9 : manyB a0_7.size ≤ 8 := by unfold manyB; omega
    have hdt : entry_Data.f a0_0 a0_1 a0_2 a0_3 a0_4 a0_5 a0_6 a0_7 = some (manyB a0_7.size : Int) := by
      unfold entry_Data.f
      rw [show tree_One.f a0_0 a0_1 a0_2 a0_3 a0_4 a0_5 a0_6 a0_7 = some true from hb.trans (congrArg some ho)]
      simp only [Option.bind_some, if_true]
      rw [many_f (by omega)]
      rfl
    have hE : entryB ⟨a0_0, a0_1, a0_2, a0_3, a0_4, a0_5, a0_6, a0_7⟩ = aheadB a0_0 a0_1 ++ (hdBlk (entryHd ⟨a0_0, a0_1, a0_2, a0_3, a0_4, a0_5, a0_6, a0_7⟩) :: cutL a0_7) := rfl
    have hx : byteOk (hdBlk (entryHd ⟨a0_0, a0_1, a0_2, a0_3, a0_4, a0_5, a0_6, a0_7⟩)) := entryB_bytes hf _ (by rw [hE]; exact List.mem_append_right _ (.head _))
    have hr0 : rdR (entryB ⟨a0_0, a0_1, a0_2, a0_3, a0_4, a0_5, a0_6, a0_7⟩) (aheadB a0_0 a0_1).length = hdBlk (entryHd ⟨a0_0, a0_1, a0_2, a0_3, a0_4, a0_5, a0_6, a0_7⟩) := by
      rw [hE]
      unfold rdR
      rw [List.getD_eq_getElem?_getD, List.getElem?_append_right (Nat.le_refl _), Nat.sub_self]
      rfl
    have hr1 : (entryB ⟨a0_0, a0_1, a0_2, a0_3, a0_4, a0_5, a0_6, a0_7⟩).drop ((aheadB a0_0 a0_1).length + 1) = cutL a0_7 := by
      rw [hE, List.drop_append]
      simp
    have htc := textL_cut a0_7
    have hcl : (cutL a0_7).length ≤ 1000 := by rw [cutL_length]; omega
    have hok := entryHd_ok hf
    refine EntryHead_yes a0_0 a0_1 a0_2 a0_3 a0_4 a0_5 a0_6 a0_7 w _ _ _ (entryB ⟨a0_0, a0_1, a0_2, a0_3, a0_4, a0_5, a0_6, a0_7⟩) (hdBlk (entryHd ⟨a0_0, a0_1, a0_2, a0_3, a0_4, a0_5, a0_6, a0_7⟩)) (cutL a0_7) (aheadB a0_0 a0_1).length (manyB a0_7.size) h9 hal hl hr0 hr1 hfew (fun W => entry_Head.calls a0_0 a0_1 a0_2 a0_3 a0_4 a0_5 a0_6 a0_7 _ _ _ _ _ _ _ _ _ _ _ _ W hh) (fun W => rows_flag (entry_Put.calls a0_0 a0_1 a0_2 a0_3 a0_4 a0_5 a0_6 a0_7 _ _ W hp)) hone (fun W => entry_Data.calls a0_0 a0_1 a0_2 a0_3 a0_4 a0_5 a0_6 a0_7 _ W hdt) (fun W A c hC hc => block_May.calls A c _ true W hC hc ?_) (fun W A c hC hc => ?_) (fun W A c hC hc => ?_) (fun W => ?_)
    · unfold block_May.f
      rw [blocksOk_of (entryB_512 hf)]
    · have h7 := head_Get.at_ A c _ W hC hc hx
      rw [headGet_entry hf] at h7
      exact h7
    · have h7 := block_Text.at_ A c _ a0_7.size W hC hc hcl (by omega)
      rw [htc] at h7
      exact h7
    · refine head_May.calls _ _ _ _ _ _ _ _ _ _ _ true W ?_
      unfold head_May.f
      exact (if_pos (entryHd_in hf)).trans (congrArg some hok)

end Go.Proofs.Ytlecnodlnkanaaa.X
