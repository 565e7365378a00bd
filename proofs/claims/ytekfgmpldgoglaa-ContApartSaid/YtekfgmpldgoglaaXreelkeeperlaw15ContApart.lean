import Derived.Test.YtekfgmpldgoglaaXK
import Derived.Test.YtekfgmpldgoglaaXE23
import Derived.Test.YtekfgmpldgoglaaXGlaw15
import Derived.Test.YtekfgmpldgoglaaXGreelkeeperref03
import Derived.Test.YtekfgmpldgoglaaXreelkeeperlaw05Few
import Derived.Test.YtekfgmpldgoglaaP04f
import Derived.Test.YtekfgmpldgoglaaP04g
import Derived.Test.YtekfgmpldgoglaaP15a
import Derived.Test.YtekfgmpldgoglaaP15b
import Derived.Test.YtekfgmpldgoglaaP15c
import Derived.Test.YtekfgmpldgoglaaPGA
import Derived.Test.YtekfgmpldgoglaaPGE
import Derived.Deep.RegionHeld3
import Derived.Laws.EntriesVeiled
import Derived.WalkSpells
namespace Go.Proofs.Ytekfgmpldgoglaa.X
open Go.RowKit Go.Proofs.YtekfgmpldgoglaaW.PrintWords Go.Proofs.YtekfgmpldgoglaaW.PrintLast Go.Proofs.YtekfgmpldgoglaaW.PrintMore
attribute [local go_sem] max2_int min2_int max_two min_two
set_option linter.unusedVariables false
set_option linter.unusedSimpArgs false

attribute [local go_sem high] eqA23
open Go.Proofs.YtekfgmpldgoglaaY
set_option maxRecDepth 100000
theorem nd_eqA15 (n m : Nd) : (n.f0.toList == m.f0.toList && (n.f1.toList == m.f1.toList && (n.f2 == m.f2 && (n.f3 == m.f3 && (n.f4 == m.f4 && (n.f5 == m.f5 && (n.f6 == m.f6 && (n.f7.toList == m.f7.toList)))))))) = decide (n = m) := by
  rw [toList_eq, toList_eq, toList_eq, Bool.eq_iff_iff, decide_eq_true_eq]
  simp only [Bool.and_eq_true, decide_eq_true_eq, beq_iff_eq]
  constructor
  · rintro ⟨h0, h1, h2, h3, h4, h5, h6, h7⟩
    cases n
    cases m
    simp only at h0 h1 h2 h3 h4 h5 h6 h7
    subst h0 h1 h2 h3 h4 h5 h6 h7
    rfl
  · rintro rfl
    exact ⟨rfl, rfl, rfl, rfl, rfl, rfl, rfl, rfl⟩
def reelkeeperlaw15_ContApart.f (k : Nat) (a0_0 a0_1 : ByteArray) (a0_2 a0_3 a0_4 a0_5 a0_6 : Int) (a0_7 : ByteArray) (x0 : Int) (a1_0 a1_1 : ByteArray) (a1_2 a1_3 a1_4 a1_5 a1_6 : Int) (a1_7 : ByteArray) (x1 : Int) : Option Bool := some true
theorem ContApart_told (n : Nd) (a : Int) (m : Nd) (b : Int) : ∃ k, reelkeeperlaw15_ContApart.f k n.f0 n.f1 n.f2 n.f3 n.f4 n.f5 n.f6 n.f7 a m.f0 m.f1 m.f2 m.f3 m.f4 m.f5 m.f6 m.f7 b = some true := ⟨0, rfl⟩
set_option maxHeartbeats 3200000 in
theorem reelkeeperlaw15_ContApart.calls (k : Nat) (a0_0 a0_1 : ByteArray) (a0_2 a0_3 a0_4 a0_5 a0_6 : Int) (a0_7 : ByteArray) (x0 : Int) (a1_0 a1_1 : ByteArray) (a1_2 a1_3 a1_4 a1_5 a1_6 : Int) (a1_7 : ByteArray) (x1 : Int) (r : Bool) (w : World) (h : reelkeeperlaw15_ContApart.f k a0_0 a0_1 a0_2 a0_3 a0_4 a0_5 a0_6 a0_7 x0 a1_0 a1_1 a1_2 a1_3 a1_4 a1_5 a1_6 a1_7 x1 = some r) :
    Calls Try.prog 6 #[.agg #[.string a0_0, .string a0_1, .int .u8 a0_2, .int .i64 a0_3, .int .i64 a0_4, .int .i64 a0_5, .int .i64 a0_6, .string a0_7], .int .i64 x0, .agg #[.string a1_0, .string a1_1, .int .u8 a1_2, .int .i64 a1_3, .int .i64 a1_4, .int .i64 a1_5, .int .i64 a1_6, .string a1_7], .int .i64 x1] w fun e w' => e = .returned (.bool r) ∧ Below w.heap.size w w' := by
  obtain rfl : true = r := Option.some.inj h
  clear h k
  have hup := fun W => awake15.at_ W
  have hfew1 := fun W => reelkeeperlaw05_Few.calls a0_0 a0_1 a0_2 a0_3 a0_4 a0_5 a0_6 a0_7 _ W (few5 ⟨a0_0, a0_1, a0_2, a0_3, a0_4, a0_5, a0_6, a0_7⟩)
  have hfew2 := fun W => reelkeeperlaw05_Few.calls a1_0 a1_1 a1_2 a1_3 a1_4 a1_5 a1_6 a1_7 _ W (few5 ⟨a1_0, a1_1, a1_2, a1_3, a1_4, a1_5, a1_6, a1_7⟩)
  cases hn : okN ⟨a0_0, a0_1, a0_2, a0_3, a0_4, a0_5, a0_6, a0_7⟩ with
  | false =>
    rw [hn] at hfew1
    generalize okN ⟨a1_0, a1_1, a1_2, a1_3, a1_4, a1_5, a1_6, a1_7⟩ = b2 at hfew2
    clear hn
    have HB0 := Aside0.mk (Below.refl w.heap.size w)
    have HB0 := Aside0.mk (below_alloc HB0.out (.cells #[.string a0_0, .string a0_1, .int .u8 a0_2, .int .i64 a0_3, .int .i64 a0_4, .int .i64 a0_5, .int .i64 a0_6, .string a0_7] 23))
    have HXn_0 := Aside0.mk (heap_alloc_new w (.cells #[.string a0_0, .string a0_1, .int .u8 a0_2, .int .i64 a0_3, .int .i64 a0_4, .int .i64 a0_5, .int .i64 a0_6, .string a0_7] 23))
    have HB0 := Aside0.mk (below_alloc HB0.out (.cells #[.string a1_0, .string a1_1, .int .u8 a1_2, .int .i64 a1_3, .int .i64 a1_4, .int .i64 a1_5, .int .i64 a1_6, .string a1_7] 23))
    have HXn_0 := Aside0.mk (blk_alloc HXn_0.out (.cells #[.string a1_0, .string a1_1, .int .u8 a1_2, .int .i64 a1_3, .int .i64 a1_4, .int .i64 a1_5, .int .i64 a1_6, .string a1_7] 23))
    have HXm_0 := Aside0.mk (heap_alloc_new (w.alloc (.cells #[.string a0_0, .string a0_1, .int .u8 a0_2, .int .i64 a0_3, .int .i64 a0_4, .int .i64 a0_5, .int .i64 a0_6, .string a0_7] 23)) (.cells #[.string a1_0, .string a1_1, .int .u8 a1_2, .int .i64 a1_3, .int .i64 a1_4, .int .i64 a1_5, .int .i64 a1_6, .string a1_7] 23))
    rw [show (w.alloc (.cells #[.string a0_0, .string a0_1, .int .u8 a0_2, .int .i64 a0_3, .int .i64 a0_4, .int .i64 a0_5, .int .i64 a0_6, .string a0_7] 23)).heap.size = w.heap.size + 1 by simp] at HXm_0
    go_enter Try.func6, Try.ntmps6
    go_wp2_with (first | (go_at_call 10; refine (hup _).mono ?_; rintro e w1 ⟨rfl, hb⟩; have HB1 := Aside0.mk (below_step (by repeat (first | exact HB0.out | apply below_alloc | apply pw_below_drewN | apply below_drew1)) hb); have HXn_1 := Aside0.mk (blk_below (by repeat (first | exact HXn_0.out | apply blk_alloc | apply blk_drewN | apply blk_drew)) hb); have HXm_1 := Aside0.mk (blk_below (by repeat (first | exact HXm_0.out | apply blk_alloc | apply blk_drewN | apply blk_drew)) hb); clear hb; obtain ⟨zn0_1, zn1_1, zn2_1, zn3_1, zn4_1, zn5_1, zn6_1, zn7_1⟩ := cells8 HXn_1.out; obtain ⟨zm0_1, zm1_1, zm2_1, zm3_1, zm4_1, zm5_1, zm6_1, zm7_1⟩ := cells8 HXm_1.out) | (have _t := HB2; go_at_call 11; (with_reducible refine (hfew2 _).mono ?_); rintro e w3 ⟨rfl, hb⟩; have HB3 := Aside0.mk (below_step (by repeat (first | exact HB2.out | apply below_alloc | apply pw_below_drewN | apply below_drew1)) hb); have HXn_3 := Aside0.mk (blk_below (by repeat (first | exact HXn_2.out | apply blk_alloc | apply blk_drewN | apply blk_drew)) hb); have HXm_3 := Aside0.mk (blk_below (by repeat (first | exact HXm_2.out | apply blk_alloc | apply blk_drewN | apply blk_drew)) hb); clear hb; obtain ⟨zn0_3, zn1_3, zn2_3, zn3_3, zn4_3, zn5_3, zn6_3, zn7_3⟩ := cells8 HXn_3.out; obtain ⟨zm0_3, zm1_3, zm2_3, zm3_3, zm4_3, zm5_3, zm6_3, zm7_3⟩ := cells8 HXm_3.out) | (have _t := HB1; go_at_call 11; (with_reducible refine (hfew1 _).mono ?_); rintro e w2 ⟨rfl, hb⟩; have HB2 := Aside0.mk (below_step (by repeat (first | exact HB1.out | apply below_alloc | apply pw_below_drewN | apply below_drew1)) hb); have HXn_2 := Aside0.mk (blk_below (by repeat (first | exact HXn_1.out | apply blk_alloc | apply blk_drewN | apply blk_drew)) hb); have HXm_2 := Aside0.mk (blk_below (by repeat (first | exact HXm_1.out | apply blk_alloc | apply blk_drewN | apply blk_drew)) hb); clear hb; obtain ⟨zn0_2, zn1_2, zn2_2, zn3_2, zn4_2, zn5_2, zn6_2, zn7_2⟩ := cells8 HXn_2.out; obtain ⟨zm0_2, zm1_2, zm2_2, zm3_2, zm4_2, zm5_2, zm6_2, zm7_2⟩ := cells8 HXm_2.out))
    go_ret
    exact ⟨rfl, (by repeat (first | exact HB3.out | apply pw_below_drewN | apply below_drew1))⟩
  | true =>
  rw [hn] at hfew1
  cases hm : okN ⟨a1_0, a1_1, a1_2, a1_3, a1_4, a1_5, a1_6, a1_7⟩ with
  | false =>
    rw [hm] at hfew2
    clear hn hm
    have HB0 := Aside0.mk (Below.refl w.heap.size w)
    have HB0 := Aside0.mk (below_alloc HB0.out (.cells #[.string a0_0, .string a0_1, .int .u8 a0_2, .int .i64 a0_3, .int .i64 a0_4, .int .i64 a0_5, .int .i64 a0_6, .string a0_7] 23))
    have HXn_0 := Aside0.mk (heap_alloc_new w (.cells #[.string a0_0, .string a0_1, .int .u8 a0_2, .int .i64 a0_3, .int .i64 a0_4, .int .i64 a0_5, .int .i64 a0_6, .string a0_7] 23))
    have HB0 := Aside0.mk (below_alloc HB0.out (.cells #[.string a1_0, .string a1_1, .int .u8 a1_2, .int .i64 a1_3, .int .i64 a1_4, .int .i64 a1_5, .int .i64 a1_6, .string a1_7] 23))
    have HXn_0 := Aside0.mk (blk_alloc HXn_0.out (.cells #[.string a1_0, .string a1_1, .int .u8 a1_2, .int .i64 a1_3, .int .i64 a1_4, .int .i64 a1_5, .int .i64 a1_6, .string a1_7] 23))
    have HXm_0 := Aside0.mk (heap_alloc_new (w.alloc (.cells #[.string a0_0, .string a0_1, .int .u8 a0_2, .int .i64 a0_3, .int .i64 a0_4, .int .i64 a0_5, .int .i64 a0_6, .string a0_7] 23)) (.cells #[.string a1_0, .string a1_1, .int .u8 a1_2, .int .i64 a1_3, .int .i64 a1_4, .int .i64 a1_5, .int .i64 a1_6, .string a1_7] 23))
    rw [show (w.alloc (.cells #[.string a0_0, .string a0_1, .int .u8 a0_2, .int .i64 a0_3, .int .i64 a0_4, .int .i64 a0_5, .int .i64 a0_6, .string a0_7] 23)).heap.size = w.heap.size + 1 by simp] at HXm_0
    go_enter Try.func6, Try.ntmps6
    go_wp2_with (first | (go_at_call 10; refine (hup _).mono ?_; rintro e w1 ⟨rfl, hb⟩; have HB1 := Aside0.mk (below_step (by repeat (first | exact HB0.out | apply below_alloc | apply pw_below_drewN | apply below_drew1)) hb); have HXn_1 := Aside0.mk (blk_below (by repeat (first | exact HXn_0.out | apply blk_alloc | apply blk_drewN | apply blk_drew)) hb); have HXm_1 := Aside0.mk (blk_below (by repeat (first | exact HXm_0.out | apply blk_alloc | apply blk_drewN | apply blk_drew)) hb); clear hb; obtain ⟨zn0_1, zn1_1, zn2_1, zn3_1, zn4_1, zn5_1, zn6_1, zn7_1⟩ := cells8 HXn_1.out; obtain ⟨zm0_1, zm1_1, zm2_1, zm3_1, zm4_1, zm5_1, zm6_1, zm7_1⟩ := cells8 HXm_1.out) | (have _t := HB2; go_at_call 11; (with_reducible refine (hfew2 _).mono ?_); rintro e w3 ⟨rfl, hb⟩; have HB3 := Aside0.mk (below_step (by repeat (first | exact HB2.out | apply below_alloc | apply pw_below_drewN | apply below_drew1)) hb); have HXn_3 := Aside0.mk (blk_below (by repeat (first | exact HXn_2.out | apply blk_alloc | apply blk_drewN | apply blk_drew)) hb); have HXm_3 := Aside0.mk (blk_below (by repeat (first | exact HXm_2.out | apply blk_alloc | apply blk_drewN | apply blk_drew)) hb); clear hb; obtain ⟨zn0_3, zn1_3, zn2_3, zn3_3, zn4_3, zn5_3, zn6_3, zn7_3⟩ := cells8 HXn_3.out; obtain ⟨zm0_3, zm1_3, zm2_3, zm3_3, zm4_3, zm5_3, zm6_3, zm7_3⟩ := cells8 HXm_3.out) | (have _t := HB1; go_at_call 11; (with_reducible refine (hfew1 _).mono ?_); rintro e w2 ⟨rfl, hb⟩; have HB2 := Aside0.mk (below_step (by repeat (first | exact HB1.out | apply below_alloc | apply pw_below_drewN | apply below_drew1)) hb); have HXn_2 := Aside0.mk (blk_below (by repeat (first | exact HXn_1.out | apply blk_alloc | apply blk_drewN | apply blk_drew)) hb); have HXm_2 := Aside0.mk (blk_below (by repeat (first | exact HXm_1.out | apply blk_alloc | apply blk_drewN | apply blk_drew)) hb); clear hb; obtain ⟨zn0_2, zn1_2, zn2_2, zn3_2, zn4_2, zn5_2, zn6_2, zn7_2⟩ := cells8 HXn_2.out; obtain ⟨zm0_2, zm1_2, zm2_2, zm3_2, zm4_2, zm5_2, zm6_2, zm7_2⟩ := cells8 HXm_2.out))
    go_ret
    exact ⟨rfl, (by repeat (first | exact HB3.out | apply pw_below_drewN | apply below_drew1))⟩
  | true =>
  rw [hm] at hfew2
  obtain ⟨hz0, hz1, hz7⟩ := okN_iff.1 hn
  obtain ⟨hy0, hy1, hy7⟩ := okN_iff.1 hm
  have hput1 := fun W => cont_Put.told ⟨a0_0, a0_1, a0_2, a0_3, a0_4, a0_5, a0_6, a0_7⟩ (Nat.le_trans hz0 (by decide)) (Nat.le_trans hz1 (by decide)) x0 W
  have hput2 := fun W => cont_Put.told ⟨a1_0, a1_1, a1_2, a1_3, a1_4, a1_5, a1_6, a1_7⟩ (Nat.le_trans hy0 (by decide)) (Nat.le_trans hy1 (by decide)) x1 W
  simp only at hput1 hput2
  clear hn hm hz0 hz1 hz7 hy0 hy1 hy7
  have hsm : contMayB ⟨a0_0, a0_1, a0_2, a0_3, a0_4, a0_5, a0_6, a0_7⟩ x0 = true → contMayB ⟨a1_0, a1_1, a1_2, a1_3, a1_4, a1_5, a1_6, a1_7⟩ x1 = true → sameF (contPutB ⟨a0_0, a0_1, a0_2, a0_3, a0_4, a0_5, a0_6, a0_7⟩ x0) (contPutB ⟨a1_0, a1_1, a1_2, a1_3, a1_4, a1_5, a1_6, a1_7⟩ x1) = decide ((⟨a0_0, a0_1, a0_2, a0_3, a0_4, a0_5, a0_6, ⟨#[]⟩⟩ : Nd) = ⟨a1_0, a1_1, a1_2, a1_3, a1_4, a1_5, a1_6, ⟨#[]⟩⟩ ∧ x0 = x1 ∧ a0_7.size = a1_7.size) := fun h1 h2 => contPut_same h1 h2
  obtain ⟨sm, hsame⟩ : ∃ sm, reelkeeperref03_Same.f (contPutB ⟨a0_0, a0_1, a0_2, a0_3, a0_4, a0_5, a0_6, a0_7⟩ x0) (contPutB ⟨a1_0, a1_1, a1_2, a1_3, a1_4, a1_5, a1_6, a1_7⟩ x1) = some sm := ⟨_, rfl⟩
  have hsv : sameF (contPutB ⟨a0_0, a0_1, a0_2, a0_3, a0_4, a0_5, a0_6, a0_7⟩ x0) (contPutB ⟨a1_0, a1_1, a1_2, a1_3, a1_4, a1_5, a1_6, a1_7⟩ x1) = sm := Option.some.inj hsame
  rw [hsv] at hsm
  clear hsv
  generalize contPutB ⟨a0_0, a0_1, a0_2, a0_3, a0_4, a0_5, a0_6, a0_7⟩ x0 = lx at *
  generalize contPutB ⟨a1_0, a1_1, a1_2, a1_3, a1_4, a1_5, a1_6, a1_7⟩ x1 = ly at *
  generalize contMayB ⟨a0_0, a0_1, a0_2, a0_3, a0_4, a0_5, a0_6, a0_7⟩ x0 = is at *
  generalize contMayB ⟨a1_0, a1_1, a1_2, a1_3, a1_4, a1_5, a1_6, a1_7⟩ x1 = can at *
  have HB0 := Aside0.mk (Below.refl w.heap.size w)
  have HB0 := Aside0.mk (below_alloc HB0.out (.cells #[.string a0_0, .string a0_1, .int .u8 a0_2, .int .i64 a0_3, .int .i64 a0_4, .int .i64 a0_5, .int .i64 a0_6, .string a0_7] 23))
  have HXn_0 := Aside0.mk (heap_alloc_new w (.cells #[.string a0_0, .string a0_1, .int .u8 a0_2, .int .i64 a0_3, .int .i64 a0_4, .int .i64 a0_5, .int .i64 a0_6, .string a0_7] 23))
  have HB0 := Aside0.mk (below_alloc HB0.out (.cells #[.string a1_0, .string a1_1, .int .u8 a1_2, .int .i64 a1_3, .int .i64 a1_4, .int .i64 a1_5, .int .i64 a1_6, .string a1_7] 23))
  have HXn_0 := Aside0.mk (blk_alloc HXn_0.out (.cells #[.string a1_0, .string a1_1, .int .u8 a1_2, .int .i64 a1_3, .int .i64 a1_4, .int .i64 a1_5, .int .i64 a1_6, .string a1_7] 23))
  have HXm_0 := Aside0.mk (heap_alloc_new (w.alloc (.cells #[.string a0_0, .string a0_1, .int .u8 a0_2, .int .i64 a0_3, .int .i64 a0_4, .int .i64 a0_5, .int .i64 a0_6, .string a0_7] 23)) (.cells #[.string a1_0, .string a1_1, .int .u8 a1_2, .int .i64 a1_3, .int .i64 a1_4, .int .i64 a1_5, .int .i64 a1_6, .string a1_7] 23))
  rw [show (w.alloc (.cells #[.string a0_0, .string a0_1, .int .u8 a0_2, .int .i64 a0_3, .int .i64 a0_4, .int .i64 a0_5, .int .i64 a0_6, .string a0_7] 23)).heap.size = w.heap.size + 1 by simp] at HXm_0
  go_enter Try.func6, Try.ntmps6
  go_upto_region 4 with (first | (go_at_call 10; refine (hup _).mono ?_; rintro e w1 ⟨rfl, hb⟩; have HB1 := Aside0.mk (below_step (by repeat (first | exact HB0.out | apply below_alloc | apply pw_below_drewN | apply below_drew1)) hb); have HXn_1 := Aside0.mk (blk_below (by repeat (first | exact HXn_0.out | apply blk_alloc | apply blk_drewN | apply blk_drew)) hb); have HXm_1 := Aside0.mk (blk_below (by repeat (first | exact HXm_0.out | apply blk_alloc | apply blk_drewN | apply blk_drew)) hb); clear hb; obtain ⟨zn0_1, zn1_1, zn2_1, zn3_1, zn4_1, zn5_1, zn6_1, zn7_1⟩ := cells8 HXn_1.out; obtain ⟨zm0_1, zm1_1, zm2_1, zm3_1, zm4_1, zm5_1, zm6_1, zm7_1⟩ := cells8 HXm_1.out) | (have _t := HB1; go_at_call 11; (with_reducible refine (hfew1 _).mono ?_); rintro e w2 ⟨rfl, hb⟩; have HB2 := Aside0.mk (below_step (by repeat (first | exact HB1.out | apply below_alloc | apply pw_below_drewN | apply below_drew1)) hb); have HXn_2 := Aside0.mk (blk_below (by repeat (first | exact HXn_1.out | apply blk_alloc | apply blk_drewN | apply blk_drew)) hb); have HXm_2 := Aside0.mk (blk_below (by repeat (first | exact HXm_1.out | apply blk_alloc | apply blk_drewN | apply blk_drew)) hb); clear hb; obtain ⟨zn0_2, zn1_2, zn2_2, zn3_2, zn4_2, zn5_2, zn6_2, zn7_2⟩ := cells8 HXn_2.out; obtain ⟨zm0_2, zm1_2, zm2_2, zm3_2, zm4_2, zm5_2, zm6_2, zm7_2⟩ := cells8 HXm_2.out) | (have _t := HB2; go_at_call 11; (with_reducible refine (hfew2 _).mono ?_); rintro e w3 ⟨rfl, hb⟩; have HB3 := Aside0.mk (below_step (by repeat (first | exact HB2.out | apply below_alloc | apply pw_below_drewN | apply below_drew1)) hb); have HXn_3 := Aside0.mk (blk_below (by repeat (first | exact HXn_2.out | apply blk_alloc | apply blk_drewN | apply blk_drew)) hb); have HXm_3 := Aside0.mk (blk_below (by repeat (first | exact HXm_2.out | apply blk_alloc | apply blk_drewN | apply blk_drew)) hb); clear hb; obtain ⟨zn0_3, zn1_3, zn2_3, zn3_3, zn4_3, zn5_3, zn6_3, zn7_3⟩ := cells8 HXn_3.out; obtain ⟨zm0_3, zm1_3, zm2_3, zm3_3, zm4_3, zm5_3, zm6_3, zm7_3⟩ := cells8 HXm_3.out))
  go_upto_region 7 with (first | (have _t := HB3; go_at_call 13; (with_reducible refine (hput1 _).mono ?_); rintro e w4 ⟨Ax, cx, rfl, HCx, HLx, hb⟩; have HB4 := Aside0.mk (below_step (by repeat (first | exact HB3.out | apply below_alloc | apply pw_below_drewN | apply below_drew1)) hb); have HXn_4 := Aside0.mk (blk_below (by repeat (first | exact HXn_3.out | apply blk_alloc | apply blk_drewN | apply blk_drew)) hb); have HXm_4 := Aside0.mk (blk_below (by repeat (first | exact HXm_3.out | apply blk_alloc | apply blk_drewN | apply blk_drew)) hb); clear hb; obtain ⟨zn0_4, zn1_4, zn2_4, zn3_4, zn4_4, zn5_4, zn6_4, zn7_4⟩ := cells8 HXn_4.out; obtain ⟨zm0_4, zm1_4, zm2_4, zm3_4, zm4_4, zm5_4, zm6_4, zm7_4⟩ := cells8 HXm_4.out))
  go_upto_region 8 with (first | (have _t := HB4; go_at_call 13; (with_reducible refine (hput2 _).mono ?_); rintro e w5 ⟨Ay, cy, rfl, HCy, HLy, hb⟩; have HB5 := Aside0.mk (below_step (by repeat (first | exact HB4.out | apply below_alloc | apply pw_below_drewN | apply below_drew1)) hb); have HXn_5 := Aside0.mk (blk_below (by repeat (first | exact HXn_4.out | apply blk_alloc | apply blk_drewN | apply blk_drew)) hb); have HXm_5 := Aside0.mk (blk_below (by repeat (first | exact HXm_4.out | apply blk_alloc | apply blk_drewN | apply blk_drew)) hb); have HCx := Aside0.mk (Kd.C_below HCx.out hb); clear hb; obtain ⟨zn0_5, zn1_5, zn2_5, zn3_5, zn4_5, zn5_5, zn6_5, zn7_5⟩ := cells8 HXn_5.out; obtain ⟨zm0_5, zm1_5, zm2_5, zm3_5, zm4_5, zm5_5, zm6_5, zm7_5⟩ := cells8 HXm_5.out))
  go_upto_region 9 with (first | (go_at_call 17; refine (reelkeeperref03_Same.calls _ _ _ _ _ _ sm _ HCx.out HLx.out HCy.out HLy.out hsame).mono ?_; rintro e w6 ⟨rfl, ⟨⟨nd6, rfl⟩⟩⟩))
  have HB6 := Aside0.mk (pw_below_drewN HB5.out nd6)
  have HXn_6 := Aside0.mk (blk_drewN HXn_5.out nd6)
  have HXm_6 := Aside0.mk (blk_drewN HXm_5.out nd6)
  obtain ⟨W6, hW6⟩ : ∃ W6, w5.drewN nd6 = W6 := ⟨_, rfl⟩
  rw [hW6] at HB6 HXn_6 HXm_6 ⊢
  clear hW6 HB5 HXn_5 HXm_5 HCx HCy HLx HLy
  clear zn0_5 zn1_5 zn2_5 zn3_5 zn4_5 zn5_5 zn6_5 zn7_5 zm0_5 zm1_5 zm2_5 zm3_5 zm4_5 zm5_5 zm6_5 zm7_5
  obtain ⟨zn0_6, zn1_6, zn2_6, zn3_6, zn4_6, zn5_6, zn6_6, zn7_6⟩ := cells8 HXn_6.out
  obtain ⟨zm0_6, zm1_6, zm2_6, zm3_6, zm4_6, zm5_6, zm6_6, zm7_6⟩ := cells8 HXm_6.out
  go_upto_region 10 with (fail)
  have HB6b := below_alloc HB6.out (.cells #[.string a0_0, .string a0_1, .int .u8 a0_2, .int .i64 a0_3, .int .i64 a0_4, .int .i64 a0_5, .int .i64 a0_6, .string a0_7] 23)
  have HXn_6b := blk_alloc HXn_6.out (.cells #[.string a0_0, .string a0_1, .int .u8 a0_2, .int .i64 a0_3, .int .i64 a0_4, .int .i64 a0_5, .int .i64 a0_6, .string a0_7] 23)
  have HXm_6b := blk_alloc HXm_6.out (.cells #[.string a0_0, .string a0_1, .int .u8 a0_2, .int .i64 a0_3, .int .i64 a0_4, .int .i64 a0_5, .int .i64 a0_6, .string a0_7] 23)
  have HXa_6b := heap_alloc_new W6 (.cells #[.string a0_0, .string a0_1, .int .u8 a0_2, .int .i64 a0_3, .int .i64 a0_4, .int .i64 a0_5, .int .i64 a0_6, .string a0_7] 23)
  have hbs : w.heap.size + 1 + 1 ≤ W6.heap.size := by have := blk_lt HXm_6.out; omega
  have hW6s : (W6.alloc (.cells #[.string a0_0, .string a0_1, .int .u8 a0_2, .int .i64 a0_3, .int .i64 a0_4, .int .i64 a0_5, .int .i64 a0_6, .string a0_7] 23)).heap.size = W6.heap.size + 1 := by simp
  obtain ⟨W6b, hW6b⟩ : ∃ W6b, W6.alloc (.cells #[.string a0_0, .string a0_1, .int .u8 a0_2, .int .i64 a0_3, .int .i64 a0_4, .int .i64 a0_5, .int .i64 a0_6, .string a0_7] 23) = W6b := ⟨_, rfl⟩
  rw [hW6b] at HB6b HXn_6b HXm_6b HXa_6b hW6s ⊢
  clear hW6b zn0_6 zn1_6 zn2_6 zn3_6 zn4_6 zn5_6 zn6_6 zn7_6 zm0_6 zm1_6 zm2_6 zm3_6 zm4_6 zm5_6 zm6_6 zm7_6
  obtain ⟨zm0_6, zm1_6, zm2_6, zm3_6, zm4_6, zm5_6, zm6_6, zm7_6⟩ := cells8 HXm_6b
  go_upto_region 11 with (fail)
  have HB7 := below_alloc HB6b (.cells #[.string a1_0, .string a1_1, .int .u8 a1_2, .int .i64 a1_3, .int .i64 a1_4, .int .i64 a1_5, .int .i64 a1_6, .string a1_7] 23)
  have HXn_7 := blk_alloc HXn_6b (.cells #[.string a1_0, .string a1_1, .int .u8 a1_2, .int .i64 a1_3, .int .i64 a1_4, .int .i64 a1_5, .int .i64 a1_6, .string a1_7] 23)
  have HXm_7 := blk_alloc HXm_6b (.cells #[.string a1_0, .string a1_1, .int .u8 a1_2, .int .i64 a1_3, .int .i64 a1_4, .int .i64 a1_5, .int .i64 a1_6, .string a1_7] 23)
  have HXa_7 := blk_alloc HXa_6b (.cells #[.string a1_0, .string a1_1, .int .u8 a1_2, .int .i64 a1_3, .int .i64 a1_4, .int .i64 a1_5, .int .i64 a1_6, .string a1_7] 23)
  have HXb_7 := heap_alloc_new W6b (.cells #[.string a1_0, .string a1_1, .int .u8 a1_2, .int .i64 a1_3, .int .i64 a1_4, .int .i64 a1_5, .int .i64 a1_6, .string a1_7] 23)
  obtain ⟨W7, hW7⟩ : ∃ W7, W6b.alloc (.cells #[.string a1_0, .string a1_1, .int .u8 a1_2, .int .i64 a1_3, .int .i64 a1_4, .int .i64 a1_5, .int .i64 a1_6, .string a1_7] 23) = W7 := ⟨_, rfl⟩
  rw [hW7] at HB7 HXn_7 HXm_7 HXa_7 HXb_7 ⊢
  rw [hW6s] at HXb_7
  clear hW7 hW6s zm0_6 zm1_6 zm2_6 zm3_6 zm4_6 zm5_6 zm6_6 zm7_6 HB6b HXn_6b HXm_6b HXa_6b
  generalize W6.heap.size = g at *
  have y1 := blk_frozen HXa_7 7
  have z1 := (blk_cell HXa_7 7).trans (show _ = some (Value.string a0_7) from rfl)
  have HB8 := Aside0.mk (HB7.setCell (p := ⟨g, 7, none⟩) (by show w.heap.size ≤ g; omega) (.string ⟨#[]⟩))
  have HXn_8 := Aside0.mk (blk_far HXn_7 (p := ⟨g, 7, none⟩) (by show w.heap.size ≠ g; omega) (.string ⟨#[]⟩))
  have HXm_8 := Aside0.mk (blk_far HXm_7 (p := ⟨g, 7, none⟩) (by show w.heap.size + 1 ≠ g; omega) (.string ⟨#[]⟩))
  have HXb_8 := Aside0.mk (blk_far HXb_7 (p := ⟨g, 7, none⟩) (by show g + 1 ≠ g; omega) (.string ⟨#[]⟩))
  have HXa_8 := Aside0.mk (blk_put HXa_7 7 (.string ⟨#[]⟩) (cs' := #[.string a0_0, .string a0_1, .int .u8 a0_2, .int .i64 a0_3, .int .i64 a0_4, .int .i64 a0_5, .int .i64 a0_6, .string ⟨#[]⟩]) rfl)
  clear HB6 HXn_6 HXm_6 HB7 HXn_7 HXm_7 HXa_7 HXb_7
  go_upto_region 12 with (fail)
  obtain ⟨W8, hW8⟩ : ∃ W8, W7.setCell ⟨g, 7, none⟩ (.string ⟨#[]⟩) = W8 := ⟨_, rfl⟩
  rw [hW8] at HB8 HXn_8 HXm_8 HXb_8 HXa_8 ⊢
  clear hW8 y1 z1
  have y1 := blk_frozen HXb_8.out 7
  have z1 := (blk_cell HXb_8.out 7).trans (show _ = some (Value.string a1_7) from rfl)
  have HB9 := Aside0.mk (HB8.out.setCell (p := ⟨g + 1, 7, none⟩) (by show w.heap.size ≤ g + 1; omega) (.string ⟨#[]⟩))
  have HXn_9 := blk_far HXn_8.out (p := ⟨g + 1, 7, none⟩) (by show w.heap.size ≠ g + 1; omega) (.string ⟨#[]⟩)
  have HXm_9 := blk_far HXm_8.out (p := ⟨g + 1, 7, none⟩) (by show w.heap.size + 1 ≠ g + 1; omega) (.string ⟨#[]⟩)
  have HXa_9 := blk_far HXa_8.out (p := ⟨g + 1, 7, none⟩) (by show g ≠ g + 1; omega) (.string ⟨#[]⟩)
  have HXb_9 := blk_put HXb_8.out 7 (.string ⟨#[]⟩) (cs' := #[.string a1_0, .string a1_1, .int .u8 a1_2, .int .i64 a1_3, .int .i64 a1_4, .int .i64 a1_5, .int .i64 a1_6, .string ⟨#[]⟩]) rfl
  clear HB8 HXn_8 HXm_8 HXb_8 HXa_8
  go_upto_region 13 with (fail)
  obtain ⟨W9, hW9⟩ : ∃ W9, W8.setCell ⟨g + 1, 7, none⟩ (.string ⟨#[]⟩) = W9 := ⟨_, rfl⟩
  rw [hW9] at HB9 HXn_9 HXm_9 HXb_9 HXa_9 ⊢
  clear hW9 y1 z1
  obtain ⟨n0, n1, n2, n3, n4, n5, n6, n7⟩ := cells8 HXn_9
  obtain ⟨m0, m1, m2, m3, m4, m5, m6, m7⟩ := cells8 HXm_9
  obtain ⟨p0, p1, p2, p3, p4, p5, p6, p7⟩ := cells8 HXa_9
  obtain ⟨q0, q1, q2, q3, q4, q5, q6, q7⟩ := cells8 HXb_9
  clear HXn_9 HXm_9 HXa_9 HXb_9
  cases is with
  | false =>
    go_wp2_with (fail)
    go_ret
    exact ⟨rfl, HB9.out⟩
  | true =>
  cases can with
  | false =>
    go_wp2_with (fail)
    go_ret
    exact ⟨rfl, HB9.out⟩
  | true =>
    have hv := hsm rfl rfl
    clear hsm
    have E := nd_eqA15 ⟨a0_0, a0_1, a0_2, a0_3, a0_4, a0_5, a0_6, ⟨#[]⟩⟩ ⟨a1_0, a1_1, a1_2, a1_3, a1_4, a1_5, a1_6, ⟨#[]⟩⟩
    simp only at E
    generalize hEB : decide ((⟨a0_0, a0_1, a0_2, a0_3, a0_4, a0_5, a0_6, ⟨#[]⟩⟩ : Nd) = ⟨a1_0, a1_1, a1_2, a1_3, a1_4, a1_5, a1_6, ⟨#[]⟩⟩) = eb at E
    have E2 : (a0_0.toList == a1_0.toList && (a0_1.toList == a1_1.toList && (a0_2 == a1_2 && (a0_3 == a1_3 && (a0_4 == a1_4 && (a0_5 == a1_5 && a0_6 == a1_6)))))) = eb := by rw [← E, show ((⟨#[]⟩ : ByteArray).toList == (⟨#[]⟩ : ByteArray).toList) = true from beq_self_eq_true _, Bool.and_true]
    have HV : Aside0 (sm = (eb && (decide (x0 = x1) && decide (a0_7.size = a1_7.size)))) := ⟨by rw [hv, Bool.decide_and, Bool.decide_and, hEB]⟩
    clear hv hEB
    cases eb with
    | false =>
      have hs := HV.out
      simp only [Bool.false_and] at hs
      subst hs
      go_wp2_with (fail)
      go_ret
      exact ⟨by simp, HB9.out⟩
    | true =>
      by_cases c1 : x0 = x1
      · have c1b : (x0 == x1) = true := beq_iff_eq.2 c1
        by_cases c2 : a0_7.size = a1_7.size
        · have hs := HV.out
          rw [decide_eq_true c1, decide_eq_true c2] at hs
          simp only [Bool.and_self] at hs
          have c2b : ((a0_7.size : Int) == (a1_7.size : Int)) = true := beq_iff_eq.2 (by omega)
          have c2n : (a0_7.size == a1_7.size) = true := beq_iff_eq.2 c2
          subst hs
          clear c1 c2 HV
          go_wp2_with (fail)
          go_ret
          exact ⟨by simp, HB9.out⟩
        · have hs := HV.out
          rw [decide_eq_true c1, decide_eq_false c2] at hs
          simp only [Bool.and_false] at hs
          have c2b : ((a0_7.size : Int) == (a1_7.size : Int)) = false := beq_eq_false_iff_ne.2 (by omega)
          have c2n : (a0_7.size == a1_7.size) = false := beq_eq_false_iff_ne.2 c2
          subst hs
          clear c1 c2 HV
          go_wp2_with (fail)
          go_ret
          exact ⟨by simp, HB9.out⟩
      · have c1b : (x0 == x1) = false := beq_eq_false_iff_ne.2 c1
        have hs := HV.out
        rw [decide_eq_false c1] at hs
        simp only [Bool.false_and, Bool.and_false] at hs
        subst hs
        clear c1 HV
        go_wp2_with (fail)
        go_ret
        exact ⟨by simp, HB9.out⟩

end Go.Proofs.Ytekfgmpldgoglaa.X
