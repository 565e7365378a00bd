import Derived.Test.YtekfgmpldgoglaaXK
import Derived.Test.YtekfgmpldgoglaaXGhead
import Derived.Test.YtekfgmpldgoglaaXGheadGet
import Derived.Test.YtekfgmpldgoglaaXGlaw15
import Derived.Test.YtekfgmpldgoglaaXGslices
import Derived.Test.YtekfgmpldgoglaaXreelkeeperlaw05Few
import Derived.Test.YtekfgmpldgoglaaP04f
import Derived.Test.YtekfgmpldgoglaaP04g
import Derived.Test.YtekfgmpldgoglaaP15a
import Derived.Test.YtekfgmpldgoglaaP15b
import Derived.Test.YtekfgmpldgoglaaP15c
import Derived.Test.YtekfgmpldgoglaaPGA
import Derived.Test.YtekfgmpldgoglaaPGE
import Derived.Deep.RegionHeld3
import Derived.Laws.EntriesVeiled
import Derived.WalkSpells
namespace Go.Proofs.Ytekfgmpldgoglaa.X
open Go.RowKit Go.Proofs.YtekfgmpldgoglaaW.PrintWords Go.Proofs.YtekfgmpldgoglaaW.PrintLast Go.Proofs.YtekfgmpldgoglaaW.PrintMore
attribute [local go_sem] max2_int min2_int max_two min_two
set_option linter.unusedVariables false
set_option linter.unusedSimpArgs false

open Go.Proofs.YtekfgmpldgoglaaY
set_option maxRecDepth 100000
def reelkeeperlaw15_ContHead.f (k : Nat) (a0_0 a0_1 : ByteArray) (a0_2 a0_3 a0_4 a0_5 a0_6 : Int) (a0_7 : ByteArray) (a1 : Int) : Option Bool := some true
theorem ContHead_told (n : Nd) (a : Int) : ∃ k, reelkeeperlaw15_ContHead.f k n.f0 n.f1 n.f2 n.f3 n.f4 n.f5 n.f6 n.f7 a = some true := ⟨0, rfl⟩
set_option maxHeartbeats 3200000 in
theorem reelkeeperlaw15_ContHead.calls (k : Nat) (a0_0 a0_1 : ByteArray) (a0_2 a0_3 a0_4 a0_5 a0_6 : Int) (a0_7 : ByteArray) (a1 : Int) (r : Bool) (w : World) (h : reelkeeperlaw15_ContHead.f k a0_0 a0_1 a0_2 a0_3 a0_4 a0_5 a0_6 a0_7 a1 = some r) :
    Calls Try.prog 4 #[.agg #[.string a0_0, .string a0_1, .int .u8 a0_2, .int .i64 a0_3, .int .i64 a0_4, .int .i64 a0_5, .int .i64 a0_6, .string a0_7], .int .i64 a1] w fun e w' => e = .returned (.bool r) ∧ Below w.heap.size w w' := by
  obtain rfl : true = r := Option.some.inj h
  clear h k
  have hup := fun W => awake15.at_ W
  have hfew := fun W => reelkeeperlaw05_Few.calls a0_0 a0_1 a0_2 a0_3 a0_4 a0_5 a0_6 a0_7 _ W (few5 ⟨a0_0, a0_1, a0_2, a0_3, a0_4, a0_5, a0_6, a0_7⟩)
  cases hn : okN ⟨a0_0, a0_1, a0_2, a0_3, a0_4, a0_5, a0_6, a0_7⟩ with
  | false =>
    rw [hn] at hfew
    clear hn
    have HB0 := Aside0.mk (Below.refl w.heap.size w)
    have HB0 := Aside0.mk (below_alloc HB0.out (.cells #[.string a0_0, .string a0_1, .int .u8 a0_2, .int .i64 a0_3, .int .i64 a0_4, .int .i64 a0_5, .int .i64 a0_6, .string a0_7] 23))
    have HXn_0 := Aside0.mk (heap_alloc_new w (.cells #[.string a0_0, .string a0_1, .int .u8 a0_2, .int .i64 a0_3, .int .i64 a0_4, .int .i64 a0_5, .int .i64 a0_6, .string a0_7] 23))
    go_enter Try.func4, Try.ntmps4
    go_wp2_with (first | (go_at_call 10; refine (hup _).mono ?_; rintro e w1 ⟨rfl, hb⟩; have HB1 := Aside0.mk (below_step (by repeat (first | exact HB0.out | apply below_alloc | apply pw_below_drewN | apply below_drew1)) hb); have HXn_1 := Aside0.mk (blk_below (by repeat (first | exact HXn_0.out | apply blk_alloc | apply blk_drewN | apply blk_drew)) hb); clear hb; obtain ⟨zn0_1, zn1_1, zn2_1, zn3_1, zn4_1, zn5_1, zn6_1, zn7_1⟩ := cells8 HXn_1.out) | (go_at_call 11; refine (hfew _).mono ?_; rintro e w2 ⟨rfl, hb⟩; have HB2 := Aside0.mk (below_step (by repeat (first | exact HB1.out | apply below_alloc | apply pw_below_drewN | apply below_drew1)) hb); have HXn_2 := Aside0.mk (blk_below (by repeat (first | exact HXn_1.out | apply blk_alloc | apply blk_drewN | apply blk_drew)) hb); clear hb; obtain ⟨zn0_2, zn1_2, zn2_2, zn3_2, zn4_2, zn5_2, zn6_2, zn7_2⟩ := cells8 HXn_2.out))
    go_ret
    exact ⟨rfl, (by repeat (first | exact HB2.out | apply pw_below_drewN | apply below_drew1))⟩
  | true =>
  rw [hn] at hfew
  obtain ⟨hz0, hz1, hz7⟩ := okN_iff.1 hn
  have hput : ∀ W, Calls Try.prog 13 #[.agg #[.string a0_0, .string a0_1, .int .u8 a0_2, .int .i64 a0_3, .int .i64 a0_4, .int .i64 a0_5, .int .i64 a0_6, .string a0_7], .int .i64 a1] W fun e w' => ∃ A c, e = .returned (.tuple #[.slice A (contPutB ⟨a0_0, a0_1, a0_2, a0_3, a0_4, a0_5, a0_6, a0_7⟩ a1).length c, .bool (contMayB ⟨a0_0, a0_1, a0_2, a0_3, a0_4, a0_5, a0_6, a0_7⟩ a1)]) ∧ Aside0 (Kd.C kRow w' A (contPutB ⟨a0_0, a0_1, a0_2, a0_3, a0_4, a0_5, a0_6, a0_7⟩ a1).length (contPutB ⟨a0_0, a0_1, a0_2, a0_3, a0_4, a0_5, a0_6, a0_7⟩ a1)) ∧ Aside0 ((contPutB ⟨a0_0, a0_1, a0_2, a0_3, a0_4, a0_5, a0_6, a0_7⟩ a1).length ≤ c) ∧ Below W.heap.size W w' := fun W => cont_Put.told ⟨a0_0, a0_1, a0_2, a0_3, a0_4, a0_5, a0_6, a0_7⟩ (Nat.le_trans hz0 (by decide)) (Nat.le_trans hz1 (by decide)) a1 W
  clear hn
  cases hm : contMayB ⟨a0_0, a0_1, a0_2, a0_3, a0_4, a0_5, a0_6, a0_7⟩ a1 with
  | false =>
    rw [hm] at hput
    generalize contPutB ⟨a0_0, a0_1, a0_2, a0_3, a0_4, a0_5, a0_6, a0_7⟩ a1 = L at hput
    clear hm
    have HB0 := Aside0.mk (Below.refl w.heap.size w)
    have HB0 := Aside0.mk (below_alloc HB0.out (.cells #[.string a0_0, .string a0_1, .int .u8 a0_2, .int .i64 a0_3, .int .i64 a0_4, .int .i64 a0_5, .int .i64 a0_6, .string a0_7] 23))
    have HXn_0 := Aside0.mk (heap_alloc_new w (.cells #[.string a0_0, .string a0_1, .int .u8 a0_2, .int .i64 a0_3, .int .i64 a0_4, .int .i64 a0_5, .int .i64 a0_6, .string a0_7] 23))
    go_enter Try.func4, Try.ntmps4
    go_wp2_with (first | (go_at_call 10; refine (hup _).mono ?_; rintro e w1 ⟨rfl, hb⟩; have HB1 := Aside0.mk (below_step (by repeat (first | exact HB0.out | apply below_alloc | apply pw_below_drewN | apply below_drew1)) hb); have HXn_1 := Aside0.mk (blk_below (by repeat (first | exact HXn_0.out | apply blk_alloc | apply blk_drewN | apply blk_drew)) hb); clear hb; obtain ⟨zn0_1, zn1_1, zn2_1, zn3_1, zn4_1, zn5_1, zn6_1, zn7_1⟩ := cells8 HXn_1.out) | (go_at_call 11; refine (hfew _).mono ?_; rintro e w2 ⟨rfl, hb⟩; have HB2 := Aside0.mk (below_step (by repeat (first | exact HB1.out | apply below_alloc | apply pw_below_drewN | apply below_drew1)) hb); have HXn_2 := Aside0.mk (blk_below (by repeat (first | exact HXn_1.out | apply blk_alloc | apply blk_drewN | apply blk_drew)) hb); clear hb; obtain ⟨zn0_2, zn1_2, zn2_2, zn3_2, zn4_2, zn5_2, zn6_2, zn7_2⟩ := cells8 HXn_2.out) | (go_at_call 13; refine (hput _).mono ?_; rintro e w3 ⟨Aa, ca, rfl, HCa, HLa, hb⟩; have HB3 := Aside0.mk (below_step (by repeat (first | exact HB2.out | apply below_alloc | apply pw_below_drewN | apply below_drew1)) hb); have HXn_3 := Aside0.mk (blk_below (by repeat (first | exact HXn_2.out | apply blk_alloc | apply blk_drewN | apply blk_drew)) hb); clear hb; obtain ⟨zn0_3, zn1_3, zn2_3, zn3_3, zn4_3, zn5_3, zn6_3, zn7_3⟩ := cells8 HXn_3.out))
    go_ret
    exact ⟨rfl, (by repeat (first | exact HB3.out | apply pw_below_drewN | apply below_drew1))⟩
  | true =>
    rw [hm] at hput
    obtain ⟨⟨hk, ho⟩, g0, g1, g2⟩ := contMayB_iff.1 hm
    have hf := oneB_facts ho
    have hd := hf.data
    have hL : contPutB ⟨a0_0, a0_1, a0_2, a0_3, a0_4, a0_5, a0_6, a0_7⟩ a1 = contB ⟨a0_0, a0_1, a0_2, a0_3, a0_4, a0_5, a0_6, a0_7⟩ a1 (a0_7.size : Int) := by unfold contPutB; rw [if_pos hm]
    have hlast := contB_last hf a1 (a0_7.size : Int)
    have hlen := contB_length hf a1 (a0_7.size : Int)
    have hget := contHd_get hf g0 (Int.le_of_lt g1) (show (a0_7.size : Int) ≤ 4000 by have : a0_7.size ≤ 4000 := hd; omega)
    have hby : byteOk (hdBlk (contHd ⟨a0_0, a0_1, a0_2, a0_3, a0_4, a0_5, a0_6, a0_7⟩ a1 (a0_7.size : Int))) := byteOk_hdBlk (h := contHd ⟨a0_0, a0_1, a0_2, a0_3, a0_4, a0_5, a0_6, a0_7⟩ a1 (a0_7.size : Int)) ⟨by show (0 : Int) ≤ 77; decide, by show (77 : Int) ≤ 255; decide⟩
    rw [← hL] at hlast hlen
    have hl1 : 1 ≤ (contPutB ⟨a0_0, a0_1, a0_2, a0_3, a0_4, a0_5, a0_6, a0_7⟩ a1).length ∧ (contPutB ⟨a0_0, a0_1, a0_2, a0_3, a0_4, a0_5, a0_6, a0_7⟩ a1).length ≤ 3 := by rw [hlen]; split <;> omega
    generalize contPutB ⟨a0_0, a0_1, a0_2, a0_3, a0_4, a0_5, a0_6, a0_7⟩ a1 = L at *
    generalize hdBlk (contHd ⟨a0_0, a0_1, a0_2, a0_3, a0_4, a0_5, a0_6, a0_7⟩ a1 (a0_7.size : Int)) = x at hget hby hlast
    obtain ⟨nm, hnm⟩ : ∃ nm, a0_0.extract 0 (min a0_0.size 100) = nm := ⟨_, rfl⟩
    obtain ⟨whole, hwh⟩ : ∃ n : Int, (a0_7.size : Int) = n := ⟨_, rfl⟩
    obtain ⟨sz, hsz⟩ : ∃ s : Int, whole - a1 = s := ⟨_, rfl⟩
    have hhd : contHd ⟨a0_0, a0_1, a0_2, a0_3, a0_4, a0_5, a0_6, a0_7⟩ a1 (a0_7.size : Int) = ⟨nm, ⟨#[]⟩, ⟨#[]⟩, a0_3, a0_4, a0_5, sz, a0_6, 77, a1, whole⟩ := by unfold contHd; rw [hwh]; simp only; rw [hnm, hsz]
    rw [hhd] at hget
    simp only at g1
    rw [hwh] at g1
    have hw4 : whole ≤ 4000 := by rw [← hwh]; have : a0_7.size ≤ 4000 := hd; omega
    have f1 : IntKind.i64.wrap (sz + a1) = whole := by rw [i64_w, wrap_id (by omega) (by omega)]; omega
    have f2 : decide (0 < sz) = true := decide_eq_true (by omega)
    obtain ⟨nL, hnL⟩ : ∃ n, L.length = n := ⟨_, rfl⟩
    rw [hnL] at hl1 hlast
    have f3 : IntKind.i64.wrap ((nL : Int) - 1) = ((nL - 1 : Nat) : Int) := by rw [i64_w, wrap_id (by omega) (by omega)]; omega
    have f4 : ((nL : Int) == 0) = false := beq_eq_false_iff_ne.2 (by omega)
    have f4n : (nL == 0) = false := beq_eq_false_iff_ne.2 (by omega)
    have q0 : (0 : Int) ≤ ((nL - 1 : Nat) : Int) := by omega
    have q1 : ((nL - 1 : Nat) : Int) < (nL : Int) := by omega
    have hput : ∀ W, Calls Try.prog 13 #[.agg #[.string a0_0, .string a0_1, .int .u8 a0_2, .int .i64 a0_3, .int .i64 a0_4, .int .i64 a0_5, .int .i64 a0_6, .string a0_7], .int .i64 a1] W fun e w' => ∃ A c, e = .returned (.tuple #[.slice A nL c, .bool true]) ∧ Aside0 (Kd.C kRow w' A L.length L) ∧ Aside0 (L.length ≤ c) ∧ Below W.heap.size W w' := fun W => (hput W).mono (by
      rintro e w' ⟨A, c, rfl, h1, h2, hB⟩
      exact ⟨A, c, by rw [hnL], h1, h2, hB⟩)
    have HNL := Aside0.mk hnL
    have HLAST := Aside0.mk hlast
    have HQ := Aside0.mk (show nL - 1 < L.length by omega)
    have HGX := Aside0.mk hget
    have HBY := Aside0.mk hby
    clear hm hk ho g0 g1 g2 hf hd hL hlen hget hby hhd hnm hsz hnL hl1 hlast hw4
    obtain ⟨m, hm⟩ : ∃ m, nL - 1 = m := ⟨_, rfl⟩
    rw [hm] at f3 q0 q1 HLAST HQ
    clear hm
    have HB0 := Aside0.mk (Below.refl w.heap.size w)
    have HB0 := Aside0.mk (below_alloc HB0.out (.cells #[.string a0_0, .string a0_1, .int .u8 a0_2, .int .i64 a0_3, .int .i64 a0_4, .int .i64 a0_5, .int .i64 a0_6, .string a0_7] 23))
    have HXn_0 := Aside0.mk (heap_alloc_new w (.cells #[.string a0_0, .string a0_1, .int .u8 a0_2, .int .i64 a0_3, .int .i64 a0_4, .int .i64 a0_5, .int .i64 a0_6, .string a0_7] 23))
    go_enter Try.func4, Try.ntmps4
    go_upto_region 8 with (first | (go_at_call 10; refine (hup _).mono ?_; rintro e w1 ⟨rfl, hb⟩; have HB1 := Aside0.mk (below_step (by repeat (first | exact HB0.out | apply below_alloc | apply pw_below_drewN | apply below_drew1)) hb); have HXn_1 := Aside0.mk (blk_below (by repeat (first | exact HXn_0.out | apply blk_alloc | apply blk_drewN | apply blk_drew)) hb); clear hb; obtain ⟨zn0_1, zn1_1, zn2_1, zn3_1, zn4_1, zn5_1, zn6_1, zn7_1⟩ := cells8 HXn_1.out) | (go_at_call 11; refine (hfew _).mono ?_; rintro e w2 ⟨rfl, hb⟩; have HB2 := Aside0.mk (below_step (by repeat (first | exact HB1.out | apply below_alloc | apply pw_below_drewN | apply below_drew1)) hb); have HXn_2 := Aside0.mk (blk_below (by repeat (first | exact HXn_1.out | apply blk_alloc | apply blk_drewN | apply blk_drew)) hb); clear hb; obtain ⟨zn0_2, zn1_2, zn2_2, zn3_2, zn4_2, zn5_2, zn6_2, zn7_2⟩ := cells8 HXn_2.out) | (go_at_call 13; refine (hput _).mono ?_; rintro e w3 ⟨Aa, ca, rfl, HCa, HLa, hb⟩; have HB3 := Aside0.mk (below_step (by repeat (first | exact HB2.out | apply below_alloc | apply pw_below_drewN | apply below_drew1)) hb); have HXn_3 := Aside0.mk (blk_below (by repeat (first | exact HXn_2.out | apply blk_alloc | apply blk_drewN | apply blk_drew)) hb); clear hb; obtain ⟨zn0_3, zn1_3, zn2_3, zn3_3, zn4_3, zn5_3, zn6_3, zn7_3⟩ := cells8 HXn_3.out))
    obtain ⟨ad, B, d, rfl, hx, hdl, hC⟩ := at_row HCa.out m HQ.out
    rw [HLAST.out] at hx hdl hC
    have hgt := head_Get.at_ B d x _ hC hdl HBY.out
    rw [HGX.out] at hgt
    simp only [hdCells] at hgt
    have HG := Aside0.mk hgt
    clear hgt hC hdl
    go_wp2_with (fail)
    refine HG.out.mono ?_
    rintro e w4 ⟨rfl, hb⟩
    have HB4 := Aside0.mk (below_alloc (below_step HB3.out hb) (.cells #[.string nm, .string ⟨#[]⟩, .string ⟨#[]⟩, .int .i64 a0_3, .int .i64 a0_4, .int .i64 a0_5, .int .i64 sz, .int .i64 a0_6, .int .u8 77, .int .i64 a1, .int .i64 whole] 37))
    have HXn_4 := Aside0.mk (blk_alloc (blk_below HXn_3.out hb) (.cells #[.string nm, .string ⟨#[]⟩, .string ⟨#[]⟩, .int .i64 a0_3, .int .i64 a0_4, .int .i64 a0_5, .int .i64 sz, .int .i64 a0_6, .int .u8 77, .int .i64 a1, .int .i64 whole] 37))
    have HXh_4 := Aside0.mk (heap_alloc_new w4 (.cells #[.string nm, .string ⟨#[]⟩, .string ⟨#[]⟩, .int .i64 a0_3, .int .i64 a0_4, .int .i64 a0_5, .int .i64 sz, .int .i64 a0_6, .int .u8 77, .int .i64 a1, .int .i64 whole] 37))
    clear hb HG
    obtain ⟨zn0_4, zn1_4, zn2_4, zn3_4, zn4_4, zn5_4, zn6_4, zn7_4⟩ := cells8 HXn_4.out
    obtain ⟨zh0, zh1, zh2, zh3, zh4, zh5, zh6, zh7, zh8, zh9, zh10⟩ := cells11 HXh_4.out
    go_wp2_with (fail)
    go_ret
    exact ⟨by simp, HB4.out⟩

end Go.Proofs.Ytekfgmpldgoglaa.X
