import Derived.Test.YtekfgmpldgoglaaXK
import Derived.Test.YtekfgmpldgoglaaXGhead
import Derived.Test.YtekfgmpldgoglaaXGlong
import Derived.Test.YtekfgmpldgoglaaXGreelkeeperref02
import Derived.Test.YtekfgmpldgoglaaXGreelkeeperref03
import Derived.Test.YtekfgmpldgoglaaXGreelkeeperref04
import Derived.Test.YtekfgmpldgoglaaXGslices
import Derived.Test.YtekfgmpldgoglaaYAll
import Derived.BigQuiet
import Derived.Deep.DeepCutAuto
import Derived.Deep.QuietTactic
import Derived.Deep.RegionHeld3
import Derived.Laws.EntriesVeiled
import Derived.WalkSpells
namespace Go.Proofs.Ytekfgmpldgoglaa.X
open Go.RowKit Go.Proofs.YtekfgmpldgoglaaW.PrintWords Go.Proofs.YtekfgmpldgoglaaW.PrintLast Go.Proofs.YtekfgmpldgoglaaW.PrintMore
attribute [local go_sem] max2_int min2_int max_two min_two
set_option linter.unusedVariables false
set_option linter.unusedSimpArgs false

/-! ### reelkeeperref05_Text: function 66 -/
def reelkeeperref05_Text.l0 : Nat → ByteArray → Int → Option (Bool)
  | 0, _, _ => none
  | k + 1, x0, x3 => if x3 < (x0.size : Int) then (if 0 ≤ x3 then (if (bt x0 x3) = 0 then (some false) else (reelkeeperref05_Text.l0 k x0 (wrap64 (x3 + 1)))) else (none)) else (if (x0.size : Int) ≥ 1 then (some (decide ((x0.size : Int) ≤ 300))) else (some false))
def reelkeeperref05_Text.f (k : Nat) (a0 : ByteArray) : Option (Bool) := reelkeeperref05_Text.l0 k a0 0
theorem reelkeeperref05_Text.mono_l : ∀ k, (∀ y0 y1, LeO (reelkeeperref05_Text.l0 k y0 y1) (reelkeeperref05_Text.l0 (k + 1) y0 y1))
  | 0 => fun _ _ r h => by simp [reelkeeperref05_Text.l0] at h
  | k + 1 => by
    have ih0 := reelkeeperref05_Text.mono_l k
    · intro y0 y1
      unfold reelkeeperref05_Text.l0
      repeat' first
      | (with_reducible exact ih0 _ _)
      | (with_reducible exact LeO.refl _)
      | (with_reducible exact LeO.none _)
      | (with_reducible refine LeO.ite ?_ ?_)
      | (with_reducible refine LeO.bind ?_ (fun _ => ?_))
      | exact ih0 _ _
      | exact LeO.none _
      | refine LeO.ite ?_ ?_
      | refine LeO.bind ?_ (fun _ => ?_)
theorem reelkeeperref05_Text.mono : ∀ a0 k, LeO (reelkeeperref05_Text.f k a0) (reelkeeperref05_Text.f (k + 1) a0) := by
  intro a0 k
  have ih0 := reelkeeperref05_Text.mono_l k
  unfold reelkeeperref05_Text.f
  repeat' first
      | (with_reducible exact ih0 _ _)
      | (with_reducible exact LeO.refl _)
      | (with_reducible exact LeO.none _)
      | (with_reducible refine LeO.ite ?_ ?_)
      | (with_reducible refine LeO.bind ?_ (fun _ => ?_))
      | exact ih0 _ _
      | exact LeO.none _
      | refine LeO.ite ?_ ?_
      | refine LeO.bind ?_ (fun _ => ?_)
set_option maxHeartbeats 8000000 in
set_option maxRecDepth 100000 in
theorem reelkeeperref05_Text.calls (k : Nat) (a0 : ByteArray) (r : Bool) (w : World) (h : reelkeeperref05_Text.f k a0 = some r) :
    Calls Try.prog 66 #[.string a0] w fun e w' => e = .returned (.bool r) ∧ Drawn0 w w' := by
  have H : (reelkeeperref05_Text.l0 k a0 0) = some r := h
  clear h
  have H' := Aside0.mk H
  clear H
  go_enter Try.func66, Try.ntmps66
  go_wp2
  go_loopg [3] k (fun kq v3 w' => ∃ (x3_1 : Int), v3 = .int .i64 x3_1 ∧ Aside0 (reelkeeperref05_Text.l0 kq a0 x3_1 = some r) ∧ Aside0 (kq ≤ k) ∧ Drawn0 w w')
  case atStart => exact ⟨(0), (by first | rfl | (simp; done) | (simp [*]; done)), H', ⟨Nat.le_refl _⟩, by repeat (first | exact Drawn0.refl _ | apply Drawn0.step)⟩
  case round =>
    clear H'
    obtain ⟨x3_1, rfl, HA, HK1, ⟨m1, rfl⟩⟩ := hrel
    cases gk with
    | zero => exact absurd HA.out (by simp [reelkeeperref05_Text.l0])
    | succ k1 =>
      have H := HA.out
      clear HA
      simp only [reelkeeperref05_Text.l0] at H
      by_cases c2 : x3_1 < (a0.size : Int)
      · rw [if_pos c2] at H
        have c2b0 : decide (x3_1 < (a0.size : Int)) = true := decide_eq_true c2
        clear c2
        by_cases c3 : 0 ≤ x3_1
        · rw [if_pos c3] at H
          have c3b0 : decide (0 ≤ x3_1) = true := decide_eq_true c3
          clear c3
          by_cases c5 : (bt a0 x3_1) = 0
          · rw [if_pos c5] at H
            have c5b0 : ((bt a0 x3_1) == 0) = true := beq_iff_eq.mpr c5
            have c5b1 : ((bt a0 x3_1) != 0) = false := bne_eq_false_iff_eq.mpr c5
            clear c5
            obtain rfl := Option.some.inj H
            have p4 : 0 ≤ (x3_1 : Int) := of_decide_eq_true (by first | (with_reducible assumption) | assumption)
            have q4 : x3_1 < (a0.size : Int) := of_decide_eq_true (by first | (with_reducible assumption) | assumption)
            have hx4 := bt_at a0 x3_1
            replace p4 := eq_true p4
            replace q4 := eq_true q4
            go_wp2
            go_ret
            exact ⟨by first | rfl | (simp; done) | (simp [*]; done), by repeat (first | exact Drawn0.refl _ | apply Drawn0.step)⟩
          · rw [if_neg c5] at H
            have c5b0 : ((bt a0 x3_1) == 0) = false := beq_eq_false_iff_ne.mpr c5
            have c5b1 : ((bt a0 x3_1) != 0) = true := bne_iff_ne.mpr c5
            have H' := Aside0.mk H
            clear H
            have p4 : 0 ≤ (x3_1 : Int) := of_decide_eq_true (by first | (with_reducible assumption) | assumption)
            have q4 : x3_1 < (a0.size : Int) := of_decide_eq_true (by first | (with_reducible assumption) | assumption)
            have hx4 := bt_at a0 x3_1
            replace p4 := eq_true p4
            replace q4 := eq_true q4
            go_wp2
            go_roundg k1
            case measure => have := HK1.out; omega
            case rel => exact ⟨(wrap64 (x3_1 + 1)), (by first | rfl | (simp; done) | (simp [*]; done)), H', ⟨by have := HK1.out; omega⟩, by repeat (first | exact Drawn0.refl _ | apply Drawn0.step)⟩
        · rw [if_neg c3] at H
          exact absurd H (by simp)
      · rw [if_neg c2] at H
        have c2b0 : decide (x3_1 < (a0.size : Int)) = false := decide_eq_false c2
        clear c2
        by_cases c6 : (a0.size : Int) ≥ 1
        · rw [if_pos c6] at H
          have c6b0 : decide (1 ≤ (a0.size : Int)) = true := decide_eq_true c6
          have c6b1 : decide (1 ≤ a0.size) = true := decide_eq_true (by omega)
          clear c6
          obtain rfl := Option.some.inj H
          go_wp2
          go_ret
          exact ⟨by first | rfl | (simp; done) | (simp [*]; done), by repeat (first | exact Drawn0.refl _ | apply Drawn0.step)⟩
        · rw [if_neg c6] at H
          have c6b0 : decide (1 ≤ (a0.size : Int)) = false := decide_eq_false c6
          have c6b1 : decide (1 ≤ a0.size) = false := decide_eq_false (by omega)
          clear c6
          obtain rfl := Option.some.inj H
          go_wp2
          go_ret
          exact ⟨by first | rfl | (simp; done) | (simp [*]; done), by repeat (first | exact Drawn0.refl _ | apply Drawn0.step)⟩

end Go.Proofs.Ytekfgmpldgoglaa.X
namespace Go.Proofs.Ytekfgmpldgoglaa.X
open Go.RowKit Go.Proofs.YtekfgmpldgoglaaW.PrintWords Go.Proofs.YtekfgmpldgoglaaW.PrintLast Go.Proofs.YtekfgmpldgoglaaW.PrintMore
attribute [local go_sem] max2_int min2_int max_two min_two
set_option linter.unusedVariables false
set_option linter.unusedSimpArgs false

set_option maxRecDepth 100000
def reelkeeperref05_Needs.f (k : Nat) (a0_0 a0_1 : ByteArray) (a0_2 a0_3 a0_4 a0_5 a0_6 : Int) (a0_7 : ByteArray) : Option (Bool × Bool) := (reelkeeperref02_May.f k a0_0).bind fun t102 => ((reelkeeperref02_Split.f k a0_0).bind fun bt103 => (if t102 = true then (some (!bt103.2.2, decide ((a0_1.size : Int) > 100))) else (some (false, decide ((a0_1.size : Int) > 100)))))
theorem reelkeeperref05_Needs.mono : ∀ a0 a1 a2 a3 a4 a5 a6 a7 k, LeO (reelkeeperref05_Needs.f k a0 a1 a2 a3 a4 a5 a6 a7) (reelkeeperref05_Needs.f (k + 1) a0 a1 a2 a3 a4 a5 a6 a7) := by
  intro a0 a1 a2 a3 a4 a5 a6 a7 k
  exact LeO.bind (reelkeeperref02_May.mono _ _) (fun _ => LeO.bind (reelkeeperref02_Split.mono _ _) (fun _ => LeO.refl _))
set_option maxHeartbeats 1600000 in
theorem reelkeeperref05_Needs.calls (k : Nat) (a0_0 a0_1 : ByteArray) (a0_2 a0_3 a0_4 a0_5 a0_6 : Int) (a0_7 : ByteArray) (r1 r2 : Bool) (w : World) (h : reelkeeperref05_Needs.f k a0_0 a0_1 a0_2 a0_3 a0_4 a0_5 a0_6 a0_7 = some (r1, r2)) :
    Calls Try.prog 93 #[.agg #[.string a0_0, .string a0_1, .int .u8 a0_2, .int .i64 a0_3, .int .i64 a0_4, .int .i64 a0_5, .int .i64 a0_6, .string a0_7]] w fun e w' => e = .returned (.tuple #[.bool r1, .bool r2]) ∧ Below w.heap.size w w' := by
  unfold reelkeeperref05_Needs.f at h
  obtain ⟨m, hm, h⟩ := Option.bind_eq_some_iff.1 h
  obtain ⟨⟨s1, s2, s3⟩, hs, h⟩ := Option.bind_eq_some_iff.1 h
  have hmay := fun W => reelkeeperref02_May.calls k a0_0 m W hm
  have hspl := fun W => reelkeeperref02_Split.calls k a0_0 s1 s2 s3 W hs
  have hr : r1 = (m && !s3) ∧ r2 = decide ((100 : Int) < (a0_1.size : Int)) := by
    cases m
    · rw [if_neg (by decide)] at h
      injection h with h; injection h with h1 h2
      exact ⟨h1.symm, h2.symm⟩
    · rw [if_pos rfl] at h
      injection h with h; injection h with h1 h2
      exact ⟨h1.symm, h2.symm⟩
  obtain ⟨rfl, rfl⟩ := hr
  clear h hm hs
  have HB0 := Aside0.mk (Below.refl w.heap.size w)
  have HB0 := Aside0.mk (below_alloc HB0.out (.cells #[.string a0_0, .string a0_1, .int .u8 a0_2, .int .i64 a0_3, .int .i64 a0_4, .int .i64 a0_5, .int .i64 a0_6, .string a0_7] 23))
  have HXn_0 := Aside0.mk (heap_alloc_new w (.cells #[.string a0_0, .string a0_1, .int .u8 a0_2, .int .i64 a0_3, .int .i64 a0_4, .int .i64 a0_5, .int .i64 a0_6, .string a0_7] 23))
  cases m
  all_goals (
    go_enter Try.func93, Try.ntmps93
    go_upto_region 3 with (first | (go_at_call 79; refine (hmay _).mono ?_; rintro e w1 ⟨rfl, hb⟩; have HB1 := Aside0.mk (below_step (by repeat (first | exact HB0.out | apply below_alloc | apply pw_below_drewN | apply below_drew1)) hb); have HXn_1 := Aside0.mk (blk_below (by repeat (first | exact HXn_0.out | apply blk_alloc | apply blk_drewN | apply blk_drew)) hb); clear hb; obtain ⟨zn0_1, zn1_1, zn2_1, zn3_1, zn4_1, zn5_1, zn6_1, zn7_1⟩ := cells8 HXn_1.out) | (go_at_call 95; refine (hspl _).mono ?_; rintro e w2 ⟨rfl, hb⟩; have HB2 := Aside0.mk (below_step (by repeat (first | exact HB1.out | apply below_alloc | apply pw_below_drewN | apply below_drew1)) hb); have HXn_2 := Aside0.mk (blk_below (by repeat (first | exact HXn_1.out | apply blk_alloc | apply blk_drewN | apply blk_drew)) hb); clear hb; obtain ⟨zn0_2, zn1_2, zn2_2, zn3_2, zn4_2, zn5_2, zn6_2, zn7_2⟩ := cells8 HXn_2.out))
    go_quiet (fail)
    go_wp2_with (fail)
    go_ret2
    exact ⟨by simp, (by repeat (first | exact HB2.out | apply pw_below_drewN | apply below_drew1))⟩)
end Go.Proofs.Ytekfgmpldgoglaa.X
namespace Go.Proofs.Ytekfgmpldgoglaa.X
open Go.RowKit Go.Proofs.YtekfgmpldgoglaaW.PrintWords Go.Proofs.YtekfgmpldgoglaaW.PrintLast Go.Proofs.YtekfgmpldgoglaaW.PrintMore
attribute [local go_sem] max2_int min2_int max_two min_two
set_option linter.unusedVariables false
set_option linter.unusedSimpArgs false

/-! ### reelkeeperref05_short: function 94 -/
def reelkeeperref05_short.f (a0 : ByteArray) : Option (ByteArray) := if (a0.size : Int) > 100 then (if 0 ≤ 100 then (if 100 ≤ (a0.size : Int) then (some (a0.extract 0 100)) else (none)) else (none)) else (some a0)
set_option maxHeartbeats 8000000 in
set_option maxRecDepth 100000 in
theorem reelkeeperref05_short.calls (a0 : ByteArray) (r : ByteArray) (w : World) (h : reelkeeperref05_short.f a0 = some r) :
    Calls Try.prog 94 #[.string a0] w fun e w' => e = .returned (.string r) ∧ Drawn0 w w' := by
  have H : (if (a0.size : Int) > 100 then (if 0 ≤ 100 then (if 100 ≤ (a0.size : Int) then (some (a0.extract 0 100)) else (none)) else (none)) else (some a0)) = some r := h
  clear h
  by_cases c2 : (a0.size : Int) > 100
  · rw [if_pos c2] at H
    have c2b0 : decide (100 < (a0.size : Int)) = true := decide_eq_true c2
    have c2b1 : decide (100 < a0.size) = true := decide_eq_true (by omega)
    clear c2
    by_cases c3 : 0 ≤ 100
    · rw [if_pos c3] at H
      have c3b0 := eq_true c3
      have c3b1 : decide (0 ≤ 100) = true := decide_eq_true c3
      clear c3
      by_cases c4 : 100 ≤ (a0.size : Int)
      · rw [if_pos c4] at H
        have c4b0 := eq_true c4
        have c4b1 : decide (100 ≤ (a0.size : Int)) = true := decide_eq_true c4
        clear c4
        obtain rfl := Option.some.inj H
        go_enter Try.func94, Try.ntmps94
        go_wp2
        go_ret
        exact ⟨by first | rfl | (simp; done) | (simp [*]; done), by repeat (first | exact Drawn0.refl _ | apply Drawn0.step)⟩
      · rw [if_neg c4] at H
        exact absurd H (by simp)
    · rw [if_neg c3] at H
      exact absurd H (by simp)
  · rw [if_neg c2] at H
    have c2b0 : decide (100 < (a0.size : Int)) = false := decide_eq_false c2
    have c2b1 : decide (100 < a0.size) = false := decide_eq_false (by omega)
    clear c2
    obtain rfl := Option.some.inj H
    go_enter Try.func94, Try.ntmps94
    go_wp2
    go_ret
    exact ⟨by first | rfl | (simp; done) | (simp [*]; done), by repeat (first | exact Drawn0.refl _ | apply Drawn0.step)⟩

end Go.Proofs.Ytekfgmpldgoglaa.X
namespace Go.Proofs.Ytekfgmpldgoglaa.X
open Go.RowKit Go.Proofs.YtekfgmpldgoglaaW.PrintWords Go.Proofs.YtekfgmpldgoglaaW.PrintLast Go.Proofs.YtekfgmpldgoglaaW.PrintMore
attribute [local go_sem] max2_int min2_int max_two min_two
set_option linter.unusedVariables false
set_option linter.unusedSimpArgs false

set_option maxRecDepth 100000
def reelkeeperref05_Names.f (k : Nat) (a0_0 a0_1 : ByteArray) (a0_2 a0_3 a0_4 a0_5 a0_6 : Int) (a0_7 : ByteArray) : Option (ByteArray × ByteArray × ByteArray) := (reelkeeperref05_Needs.f k a0_0 a0_1 a0_2 a0_3 a0_4 a0_5 a0_6 a0_7).bind fun bt102 => (if bt102.1 = true then ((reelkeeperref05_short.f a0_0).bind fun t104 => ((reelkeeperref05_short.f a0_1).bind fun t105 => (some (t104, (⟨#[]⟩ : ByteArray), t105)))) else ((reelkeeperref02_Split.f k a0_0).bind fun bt106 => ((reelkeeperref05_short.f a0_1).bind fun t109 => (some (bt106.2.1, bt106.1, t109)))))
theorem reelkeeperref05_Names.mono : ∀ a0 a1 a2 a3 a4 a5 a6 a7 k, LeO (reelkeeperref05_Names.f k a0 a1 a2 a3 a4 a5 a6 a7) (reelkeeperref05_Names.f (k + 1) a0 a1 a2 a3 a4 a5 a6 a7) := by
  intro a0 a1 a2 a3 a4 a5 a6 a7 k
  exact LeO.bind (reelkeeperref05_Needs.mono _ _ _ _ _ _ _ _ _) (fun _ => LeO.ite (LeO.refl _) (LeO.bind (reelkeeperref02_Split.mono _ _) (fun _ => LeO.refl _)))
set_option maxHeartbeats 1600000 in
theorem reelkeeperref05_Names.calls (k : Nat) (a0_0 a0_1 : ByteArray) (a0_2 a0_3 a0_4 a0_5 a0_6 : Int) (a0_7 : ByteArray) (r1 r2 r3 : ByteArray) (w : World) (h : reelkeeperref05_Names.f k a0_0 a0_1 a0_2 a0_3 a0_4 a0_5 a0_6 a0_7 = some (r1, r2, r3)) :
    Calls Try.prog 56 #[.agg #[.string a0_0, .string a0_1, .int .u8 a0_2, .int .i64 a0_3, .int .i64 a0_4, .int .i64 a0_5, .int .i64 a0_6, .string a0_7]] w fun e w' => e = .returned (.tuple #[.string r1, .string r2, .string r3]) ∧ Below w.heap.size w w' := by
  unfold reelkeeperref05_Names.f at h
  obtain ⟨⟨m, l⟩, hm, h⟩ := Option.bind_eq_some_iff.1 h
  have hne := fun W => reelkeeperref05_Needs.calls k a0_0 a0_1 a0_2 a0_3 a0_4 a0_5 a0_6 a0_7 m l W hm
  cases m with
  | true =>
    rw [if_pos rfl] at h
    obtain ⟨t1, h1, h⟩ := Option.bind_eq_some_iff.1 h
    obtain ⟨t2, h2, h⟩ := Option.bind_eq_some_iff.1 h
    injection h with h; injection h with e1 h; injection h with e2 e3
    subst e1 e2 e3
    have HB0 := Aside0.mk (Below.refl w.heap.size w)
    have HB0 := Aside0.mk (below_alloc HB0.out (.cells #[.string a0_0, .string a0_1, .int .u8 a0_2, .int .i64 a0_3, .int .i64 a0_4, .int .i64 a0_5, .int .i64 a0_6, .string a0_7] 23))
    have HXn_0 := Aside0.mk (heap_alloc_new w (.cells #[.string a0_0, .string a0_1, .int .u8 a0_2, .int .i64 a0_3, .int .i64 a0_4, .int .i64 a0_5, .int .i64 a0_6, .string a0_7] 23))
    go_enter Try.func56, Try.ntmps56
    go_upto_region 3 with (first | (go_at_call 93; refine (hne _).mono ?_; rintro e w1 ⟨rfl, hb⟩; have HB1 := Aside0.mk (below_step (by repeat (first | exact HB0.out | apply below_alloc | apply pw_below_drewN | apply below_drew1)) hb); have HXn_1 := Aside0.mk (blk_below (by repeat (first | exact HXn_0.out | apply blk_alloc | apply blk_drewN | apply blk_drew)) hb); clear hb; obtain ⟨zn0_1, zn1_1, zn2_1, zn3_1, zn4_1, zn5_1, zn6_1, zn7_1⟩ := cells8 HXn_1.out))
    have hs1 := fun n => Calls.quiet_of ((reelkeeperref05_short.calls a0_0 t1 (w1.drewN n) h1).mono fun _ _ ⟨he, ⟨hd⟩⟩ => ⟨he, hd⟩)
    have hs2 := fun n => Calls.quiet_of ((reelkeeperref05_short.calls a0_1 t2 (w1.drewN n) h2).mono fun _ _ ⟨he, ⟨hd⟩⟩ => ⟨he, hd⟩)
    clear h1 h2
    go_quiet ((go_at_call 94; first | (with_reducible exact hs1 _) | (with_reducible exact hs2 _)))
    go_wp2_with (fail)
    go_ret3
    exact ⟨rfl, (by repeat (first | exact HB1.out | apply pw_below_drewN | apply below_drew1))⟩
  | false =>
    rw [if_neg (show ¬ (false = true) by decide)] at h
    obtain ⟨⟨s1, s2, s3⟩, hs, h⟩ := Option.bind_eq_some_iff.1 h
    obtain ⟨t2, h2, h⟩ := Option.bind_eq_some_iff.1 h
    injection h with h; injection h with e1 h; injection h with e2 e3
    simp only at e1 e2
    subst e1 e2 e3
    have hspl := fun W => reelkeeperref02_Split.calls k a0_0 s1 s2 s3 W hs
    have hs2 := fun W => reelkeeperref05_short.calls a0_1 t2 W h2
    clear h2 hs
    have HB0 := Aside0.mk (Below.refl w.heap.size w)
    have HB0 := Aside0.mk (below_alloc HB0.out (.cells #[.string a0_0, .string a0_1, .int .u8 a0_2, .int .i64 a0_3, .int .i64 a0_4, .int .i64 a0_5, .int .i64 a0_6, .string a0_7] 23))
    have HXn_0 := Aside0.mk (heap_alloc_new w (.cells #[.string a0_0, .string a0_1, .int .u8 a0_2, .int .i64 a0_3, .int .i64 a0_4, .int .i64 a0_5, .int .i64 a0_6, .string a0_7] 23))
    go_enter Try.func56, Try.ntmps56
    go_wp2_with (first | (go_at_call 93; refine (hne _).mono ?_; rintro e w1 ⟨rfl, hb⟩; have HB1 := Aside0.mk (below_step (by repeat (first | exact HB0.out | apply below_alloc | apply pw_below_drewN | apply below_drew1)) hb); have HXn_1 := Aside0.mk (blk_below (by repeat (first | exact HXn_0.out | apply blk_alloc | apply blk_drewN | apply blk_drew)) hb); clear hb; obtain ⟨zn0_1, zn1_1, zn2_1, zn3_1, zn4_1, zn5_1, zn6_1, zn7_1⟩ := cells8 HXn_1.out) | (go_at_call 95; refine (hspl _).mono ?_; rintro e w2 ⟨rfl, hb⟩; have HB2 := Aside0.mk (below_step (by repeat (first | exact HB1.out | apply below_alloc | apply pw_below_drewN | apply below_drew1)) hb); have HXn_2 := Aside0.mk (blk_below (by repeat (first | exact HXn_1.out | apply blk_alloc | apply blk_drewN | apply blk_drew)) hb); clear hb; obtain ⟨zn0_2, zn1_2, zn2_2, zn3_2, zn4_2, zn5_2, zn6_2, zn7_2⟩ := cells8 HXn_2.out) | (go_at_call 94; refine (hs2 _).mono ?_; rintro e w3 ⟨rfl, ⟨⟨nd, rfl⟩⟩⟩))
    go_ret3
    exact ⟨rfl, (by repeat (first | exact HB2.out | apply pw_below_drewN | apply below_drew1))⟩

end Go.Proofs.Ytekfgmpldgoglaa.X
namespace Go.Proofs.Ytekfgmpldgoglaa.X
open Go.RowKit Go.Proofs.YtekfgmpldgoglaaW.PrintWords Go.Proofs.YtekfgmpldgoglaaW.PrintLast Go.Proofs.YtekfgmpldgoglaaW.PrintMore
attribute [local go_sem] max2_int min2_int max_two min_two
set_option linter.unusedVariables false
set_option linter.unusedSimpArgs false

open Go.Proofs.YtekfgmpldgoglaaY
def refLong (k : Nat) (a0 : Int) (a1 : ByteArray) : Option (List (List Int)) :=
  (reelkeeperref04_Put.f k ⟨#[46, 47, 46, 47, 64, 76, 111, 110, 103, 76, 105, 110, 107]⟩ ⟨#[]⟩ ⟨#[]⟩ 0 0 0 ((a1.size : Int) + 1) 0 a0 0 0).bind fun p => (reelkeeperref03_Cut.f k (a1 ++ strOfNums [0])).bind fun c => if a1.size ≤ 10000 ∧ c.length ≤ 10000 then some (p.1 :: c) else none
def reelkeeperref05_Put.f (k : Nat) (a0 : Int) (a1 : ByteArray) : Option (List (List Int) × Bool) :=
  (reelkeeperref05_Text.f k a1).bind fun t => if longOk a0 t = true then (refLong k a0 a1).map (fun l => (l, true)) else some ([], false)
theorem reelkeeperref05_Put.mono : ∀ a0 a1 k, LeO (reelkeeperref05_Put.f k a0 a1) (reelkeeperref05_Put.f (k + 1) a0 a1) := by
  intro a0 a1 k
  unfold reelkeeperref05_Put.f
  refine LeO.bind (reelkeeperref05_Text.mono _ _) (fun t => LeO.ite ?_ (LeO.refl _))
  have h : LeO (refLong k a0 a1) (refLong (k + 1) a0 a1) := by
    unfold refLong
    exact LeO.bind (reelkeeperref04_Put.mono _ _ _ _ _ _ _ _ _ _ _ _) (fun _ => LeO.bind (reelkeeperref03_Cut.mono _ _) (fun _ => LeO.refl _))
  intro r hr
  obtain ⟨l, hl, rfl⟩ := Option.map_eq_some_iff.1 hr
  rw [h l hl]
  rfl
theorem kRow_lit {W : World} {base : Nat} {ok : Nat → Prop} {v : Value} {x : List Int} (h : Kd.R (Kd.int .u8) 5 W base ok v x) (hbase : base ≤ W.heap.size) : Kd.R kRow 41 (W.alloc (.cells #[v] 41)) base (fun _ => True) (.slice (some ⟨W.heap.size, 0, none⟩) 1 1) [x] := by
  have hrep : Reps (kRow.M W base (fun _ => True)) 1 [x] [v] := Reps.one ⟨v, rfl, Kd.R_mono h (fun _ _ => trivial)⟩ (Reps.none _ _)
  refine ⟨fun k hk => trivial, [v], ?_, ?_⟩
  · have h2 := World.ownsRow_lit (base := base) (e := 41) (size := 1) W #[v] 1 hbase (by simp [maxLen]) (by simp)
    show World.ownsRow _ _ _ 1 _ _ _
    simpa using h2
  · refine hrep.imp_ (fun p c hp => kRow.M_mono (fun k hk => ⟨trivial, fun he => ?_⟩) (Kd.M_below (kRow.M_bound hp) (below_alloc (Below.refl _ _) _)))
    have h3 : k = W.heap.size := by simpa [Value.ownBlock] using he
    have := hk.2.2.1
    omega
theorem kRow_fresh {e base b : Nat} {ok : Nat → Prop} {w : World} {v : Value} {xs : List (List Int)} (h : Kd.R kRow e w base ok v xs) (hb : b ≤ base) : ∃ A c, v = .slice A xs.length c ∧ ReadsRow (kRow.M w b (fun k => base ≤ k)) 1 w A xs.length xs := by
  obtain ⟨_, ho⟩ := Kd.R_bound h
  obtain ⟨A, c, hv, hl, hr⟩ := OwnRow.reads ho
  exact ⟨A, c, hv, hr.imp_ (Below.refl _ _) (fun _ _ hp => kRow.M_lower hb (kRow.M_mono (fun k hk => hk.1.2.1) hp))⟩
set_option maxHeartbeats 1600000 in
set_option maxRecDepth 100000 in
theorem reelkeeperref05_Put.ok (k : Nat) (a0 : Int) (a1 : ByteArray) (l : List (List Int)) (w : World) (ht : reelkeeperref05_Text.f k a1 = some true) (hk : a0 = 75 ∨ a0 = 76) (h : refLong k a0 a1 = some l) :
    Calls Try.prog 34 #[.int .u8 a0, .string a1] w fun e w' => ∃ v, e = .returned (.tuple #[v, .bool true]) ∧ Kd.R kRow 41 w' w.heap.size (fun _ => True) v l ∧ Below w.heap.size w w' := by
  have htext := fun W => reelkeeperref05_Text.calls k a1 true W ht
  unfold refLong at h
  replace h := Option.bind_eq_some_iff.1 h
  obtain ⟨⟨hb, ho⟩, hp, h⟩ := h
  replace h := Option.bind_eq_some_iff.1 h
  obtain ⟨cu, hc, h⟩ := h
  have hsz : a1.size ≤ 10000 ∧ cu.length ≤ 10000 := by
    by_cases h0 : a1.size ≤ 10000 ∧ cu.length ≤ 10000
    · exact h0
    · rw [if_neg h0] at h; cases h
  rw [if_pos hsz] at h
  obtain rfl := Option.some.inj h
  have hput : ∀ W, Calls Try.prog 35 #[.agg #[.string ⟨#[46, 47, 46, 47, 64, 76, 111, 110, 103, 76, 105, 110, 107]⟩, .string ⟨#[]⟩, .string ⟨#[]⟩, .int .i64 0, .int .i64 0, .int .i64 0, .int .i64 ((a1.size : Int) + 1), .int .i64 0, .int .u8 a0, .int .i64 0, .int .i64 0]] W fun e w' => ∃ A c, e = .returned (.tuple #[.slice A hb.length c, .bool ho]) ∧ Aside0 (Kd.R (Kd.int .u8) 5 w' W.heap.size (fun _ => True) (.slice A hb.length c) hb) ∧ Aside0 (Below W.heap.size W w') := fun W => (reelkeeperref04_Put.calls k _ _ _ 0 0 0 ((a1.size : Int) + 1) 0 a0 0 0 hb ho W hp).mono (by
    rintro e w' ⟨v, rfl, hR, hB⟩
    obtain ⟨A, c, rfl⟩ := Kd.R_slice hR
    exact ⟨A, c, rfl, ⟨hR⟩, ⟨hB⟩⟩)
  have hcut : ∀ W, Calls Try.prog 61 #[.string (a1 ++ strOfNums [0])] W fun e w' => ∃ A c, e = .returned (.slice A cu.length c) ∧ Aside0 (Kd.R kRow 41 w' W.heap.size (fun _ => True) (.slice A cu.length c) cu) ∧ Aside0 (Below W.heap.size W w') := fun W => (reelkeeperref03_Cut.calls k _ cu W hc).mono (by
    rintro e w' ⟨v, rfl, hR, hB⟩
    obtain ⟨A, c, rfl⟩ := Kd.R_slice hR
    exact ⟨A, c, rfl, ⟨hR⟩, ⟨hB⟩⟩)
  have hcv := fun W : World => own_string (P := Try.prog) Try.underlying41 Try.underlying5 Try.underlying9 (Kd.own_of_R (show Kd.R (Kd.int .u8) 5 (W.alloc (.cells #[.int .u8 0] 5)) 0 (fun _ => True) (.slice (some ⟨W.heap.size, 0, none⟩) 1 1) [0] from R_of_block (l := [0]) (heap_alloc_new W _) (Nat.zero_le _) (by decide)))
  have hm : (a1.size : Int) + 1 ≤ 9223372036854775807 := by omega
  have hm2 : a1.size + (strOfNums [0]).size ≤ 9223372036854775807 := by have : (strOfNums [0]).size = 1 := rfl; omega
  have HSZ := Aside0.mk hsz
  clear hp hc h ht hsz
  rcases hk with rfl | rfl
  all_goals
    go_enter Try.func34, Try.ntmps34
    go_upto_region 6 with (first | (go_at_call 66; refine (htext _).mono ?_; rintro e w' ⟨rfl, ⟨nd, rfl⟩⟩) | (go_at_call 35; refine (hput _).mono ?_; rintro e w1 ⟨A1, c1, rfl, HR1, HB1⟩) )
    have hs0 : w.heap.size ≤ w1.heap.size := by have := HB1.out.size; simpa using this
    have HBa : Below w.heap.size w w1 := below_step (pw_below_drewN (Below.refl _ _) _) HB1.out
    have H9 : Kd.R kRow 41 (w1.alloc (.cells #[.slice A1 hb.length c1] 41)) w.heap.size (fun _ => True) (.slice (some ⟨w1.heap.size, 0, none⟩) 1 1) [hb] := kRow_lit (Kd.R_lower HR1.out (by simp)) hs0
    have HBb := Aside0.mk (below_alloc (below_alloc HBa (.cells #[.slice A1 hb.length c1] 41)) (.cells #[.int .u8 0] 5))
    have H9b := Aside0.mk (Kd.R_alloc H9 (.cells #[.int .u8 0] 5))
    have HS0 := Aside0.mk hs0
    have hcv1 := hcv (w1.alloc (.cells #[.slice A1 hb.length c1] 41))
    have hz1 : (w1.alloc (.cells #[.slice A1 hb.length c1] 41)).heap.size = w1.heap.size + 1 := by simp
    rw [hz1] at hcv1
    clear H9 HBa hs0 HR1 HB1 htext hput hcv hz1
    go_wp2_with (fail)
    refine (hcut _).mono ?_
    rintro e w2 ⟨A2, c2, rfl, HR2, HB2⟩
    have hfr := kRow_fresh HR2.out (b := w.heap.size) (by have := HS0.out; simp; omega)
    obtain ⟨A3, c3, hv3, hfr⟩ := hfr
    injection hv3 with e1 e2 e3
    subst e1 e3
    have hzz : ((w1.alloc (.cells #[.slice A1 hb.length c1] 41)).alloc (.cells #[.int .u8 0] 5)).heap.size = w1.heap.size + 2 := by simp
    rw [hzz] at hfr
    have HFR := Aside0.mk hfr
    have HBc := Aside0.mk (below_step HBb.out HB2.out)
    have H9c := Aside0.mk (Kd.R_below H9b.out HB2.out)
    clear e2 hfr hzz HR2 HB2 HBb H9b hcut hcv1
    have hap : ([hb].length + cu.length) * 24 ≤ 140737488355328 := by have := HSZ.out; simp; omega
    have hnk : ∀ k, w1.heap.size + 2 ≤ k → True ∧ some k ≠ (Value.slice (some ⟨w1.heap.size, 0, none⟩) 1 1).ownBlock := fun k hk => ⟨trivial, fun he => by have h3 : w1.heap.size = k := (by simpa [Value.ownBlock] using he.symm); omega⟩
    go_wp2_with (at_builtin; refine Kd.R_append_rows kRow (w0 := w) w.heap.size rfl (.tmp 33) (.tmp 38) 24 41 (.slice none 0 0) 24 rfl Try.underlying24 info41 rfl (by decide) (by decide) _ [hb] cu A2 cu.length c2 (fun _ => True) (fun k => w1.heap.size + 2 ≤ k) rfl rfl H9c.out HFR.out (fun _ _ h => h) hnk (fun _ _ => trivial) HBc.out HBc.out.size hap ?_; intro v1 w3 hO hB hg hat; clear hg hat)
    go_ret2
    exact ⟨_, rfl, hO, hB⟩
theorem reelkeeperref05_Put.no (k : Nat) (a0 : Int) (a1 : ByteArray) (t : Bool) (w : World) (ht : reelkeeperref05_Text.f k a1 = some t) (hk : longOk a0 t = false) :
    Calls Try.prog 34 #[.int .u8 a0, .string a1] w fun e w' => e = .returned (.tuple #[.slice none 0 0, .bool false]) ∧ Below w.heap.size w w' := by
  have htext := fun W => reelkeeperref05_Text.calls k a1 t W ht
  unfold longOk at hk
  clear ht
  cases t with
  | false =>
    clear hk
    go_enter Try.func34, Try.ntmps34
    go_wp2_with (first | (go_at_call 66; refine (htext _).mono ?_; rintro e w' ⟨rfl, ⟨nd, rfl⟩⟩))
    go_ret2
    exact ⟨rfl, pw_below_drewN (Below.refl _ _) _⟩
  | true =>
    have c1 : ¬ a0 = 75 := by rintro rfl; simp at hk
    have c2 : ¬ a0 = 76 := by rintro rfl; simp at hk
    have b1 : (a0 == 75) = false := beq_eq_false_iff_ne.2 c1
    have b2 : (a0 == 76) = false := beq_eq_false_iff_ne.2 c2
    have b3 := ne_of_beq b1
    have b4 := ne_of_beq b2
    clear hk c1 c2
    go_enter Try.func34, Try.ntmps34
    go_wp2_with (first | (go_at_call 66; refine (htext _).mono ?_; rintro e w' ⟨rfl, ⟨nd, rfl⟩⟩))
    go_ret2
    exact ⟨rfl, pw_below_drewN (Below.refl _ _) _⟩
theorem reelkeeperref05_Put.calls (k : Nat) (a0 : Int) (a1 : ByteArray) (r1 : List (List Int)) (r2 : Bool) (w : World) (h : reelkeeperref05_Put.f k a0 a1 = some (r1, r2)) :
    Calls Try.prog 34 #[.int .u8 a0, .string a1] w fun e w' => ∃ v0_ : Value, e = .returned (.tuple #[v0_, .bool r2]) ∧ Kd.R kRow 41 w' w.heap.size (fun _ => True) v0_ r1 ∧ Below w.heap.size w w' := by
  unfold reelkeeperref05_Put.f at h
  obtain ⟨t, ht, h⟩ := Option.bind_eq_some_iff.mp h
  cases hk : longOk a0 t with
  | true =>
    rw [if_pos hk] at h
    obtain ⟨l, hl, h⟩ := Option.map_eq_some_iff.1 h
    obtain ⟨rfl, rfl⟩ := Prod.mk.inj h
    unfold longOk at hk
    simp only [Bool.and_eq_true, Bool.or_eq_true, beq_iff_eq] at hk
    obtain ⟨hk1, rfl⟩ := hk
    exact reelkeeperref05_Put.ok k a0 a1 l w ht hk1 hl
  | false =>
    rw [if_neg (by rw [hk]; decide)] at h
    obtain ⟨rfl, rfl⟩ := Prod.mk.inj (Option.some.inj h)
    refine (reelkeeperref05_Put.no k a0 a1 t w ht hk).mono ?_
    rintro e w' ⟨rfl, hb⟩
    exact ⟨_, rfl, Kd.R_nil _ _ _ _ _, hb⟩

end Go.Proofs.Ytekfgmpldgoglaa.X
namespace Go.Proofs.Ytekfgmpldgoglaa.X
open Go.RowKit Go.Proofs.YtekfgmpldgoglaaW.PrintWords Go.Proofs.YtekfgmpldgoglaaW.PrintLast Go.Proofs.YtekfgmpldgoglaaW.PrintMore
attribute [local go_sem] max2_int min2_int max_two min_two
set_option linter.unusedVariables false
set_option linter.unusedSimpArgs false

open Go.Proofs.YtekfgmpldgoglaaY
def refAhead (k : Nat) (is : Bool) (kind : Int) (s : ByteArray) : Option (List (List Int)) := if is = true then (reelkeeperref05_Put.f k kind s).map (·.1) else some []
theorem refAhead.mono (is : Bool) (kind : Int) (s : ByteArray) (k : Nat) : LeO (refAhead k is kind s) (refAhead (k + 1) is kind s) := by
  unfold refAhead
  refine LeO.ite ?_ (LeO.refl _)
  intro r hr
  obtain ⟨l, hl, rfl⟩ := Option.map_eq_some_iff.1 hr
  rw [reelkeeperref05_Put.mono _ _ _ l hl]
  rfl
def reelkeeperref05_Ahead.f (k : Nat) (a0 a1 : ByteArray) (a2 a3 a4 a5 a6 : Int) (a7 : ByteArray) : Option (List (List Int)) :=
  (reelkeeperref05_Needs.f k a0 a1 a2 a3 a4 a5 a6 a7).bind fun q => (refAhead k q.2 75 a1).bind fun x => (refAhead k q.1 76 a0).bind fun y => if x.length + y.length ≤ 100000 then some (x ++ y) else none
theorem reelkeeperref05_Ahead.mono : ∀ a0 a1 a2 a3 a4 a5 a6 a7 k, LeO (reelkeeperref05_Ahead.f k a0 a1 a2 a3 a4 a5 a6 a7) (reelkeeperref05_Ahead.f (k + 1) a0 a1 a2 a3 a4 a5 a6 a7) := by
  intro a0 a1 a2 a3 a4 a5 a6 a7 k
  unfold reelkeeperref05_Ahead.f
  exact LeO.bind (reelkeeperref05_Needs.mono _ _ _ _ _ _ _ _ _) (fun _ => LeO.bind (refAhead.mono _ _ _ _) (fun _ => LeO.bind (refAhead.mono _ _ _ _) (fun _ => LeO.refl _)))
/-- The rows that a call made, fresh from its heap's size on. -/
theorem kRow_fresh2 {base : Nat} {w w' : World} {v : Value} {xs : List (List Int)} (h : Kd.R kRow 41 w' w.heap.size (fun _ => True) v xs) (hb : base ≤ w.heap.size) : ∃ A c, v = .slice A xs.length c ∧ Aside0 (ReadsRow (kRow.M w' base (fun k => w.heap.size ≤ k)) 1 w' A xs.length xs) := by
  obtain ⟨A, c, hv, hr⟩ := kRow_fresh h hb
  exact ⟨A, c, hv, ⟨hr⟩⟩
theorem refPut_at (k : Nat) (kind : Int) (s : ByteArray) (x : List (List Int)) (h : refAhead k true kind s = some x) (base : Nat) (W : World) (hb : base ≤ W.heap.size) :
    Calls Try.prog 34 #[.int .u8 kind, .string s] W fun e w' => ∃ A c is, e = .returned (.tuple #[.slice A x.length c, .bool is]) ∧ Aside0 (ReadsRow (kRow.M w' base (fun k => W.heap.size ≤ k)) 1 w' A x.length x) ∧ Below W.heap.size W w' := by
  unfold refAhead at h
  rw [if_pos rfl] at h
  obtain ⟨⟨l, is⟩, hl, rfl⟩ := Option.map_eq_some_iff.1 h
  refine (reelkeeperref05_Put.calls k kind s l is W hl).mono ?_
  rintro e w' ⟨v, rfl, hR, hB⟩
  obtain ⟨A, c, rfl, hr⟩ := kRow_fresh2 hR hb
  exact ⟨A, c, is, rfl, hr, hB⟩
theorem own_lt {e base : Nat} {ok : Nat → Prop} {w : World} {v : Value} {xs : List (List Int)} (h : Kd.R kRow e w base ok v xs) : ∀ k, v.ownBlock = some k → k < w.heap.size := fun k hk => ((Kd.R_bound h).1 k hk).2.2.1
set_option maxHeartbeats 3200000 in
set_option maxRecDepth 100000 in
theorem reelkeeperref05_Ahead.calls (k : Nat) (a0 a1 : ByteArray) (a2 a3 a4 a5 a6 : Int) (a7 : ByteArray) (r : List (List Int)) (w : World) (h : reelkeeperref05_Ahead.f k a0 a1 a2 a3 a4 a5 a6 a7 = some r) :
    Calls Try.prog 60 #[.agg #[.string a0, .string a1, .int .u8 a2, .int .i64 a3, .int .i64 a4, .int .i64 a5, .int .i64 a6, .string a7]] w fun e w' => ∃ v0_ : Value, e = .returned v0_ ∧ Kd.R kRow 41 w' w.heap.size (fun _ => True) v0_ r ∧ Below w.heap.size w w' := by
  unfold reelkeeperref05_Ahead.f at h
  replace h := Option.bind_eq_some_iff.1 h
  obtain ⟨⟨q1, q2⟩, A1, h⟩ := h
  simp only at h
  replace h := Option.bind_eq_some_iff.1 h
  obtain ⟨x, A2, h⟩ := h
  replace h := Option.bind_eq_some_iff.1 h
  obtain ⟨y, A3, h⟩ := h
  have hlen : x.length + y.length ≤ 100000 := by
    rcases Nat.lt_or_ge 100000 (x.length + y.length) with h0 | h0
    · rw [if_neg (by omega)] at h; cases h
    · exact h0
  rw [if_pos hlen] at h
  obtain rfl := Option.some.inj h
  have hne := fun W => reelkeeperref05_Needs.calls k a0 a1 a2 a3 a4 a5 a6 a7 q1 q2 W A1
  have HLEN := Aside0.mk hlen
  clear A1 h hlen
  have HB0 := Aside0.mk (Below.refl w.heap.size w)
  have HB0 := Aside0.mk (below_alloc HB0.out (.cells #[.string a0, .string a1, .int .u8 a2, .int .i64 a3, .int .i64 a4, .int .i64 a5, .int .i64 a6, .string a7] 23))
  have HXn_0 := Aside0.mk (heap_alloc_new w (.cells #[.string a0, .string a1, .int .u8 a2, .int .i64 a3, .int .i64 a4, .int .i64 a5, .int .i64 a6, .string a7] 23))
  have A2 := Aside0.mk A2
  have A3 := Aside0.mk A3
  go_enter Try.func60, Try.ntmps60
  go_upto_if 15 with (go_at_call 93; refine (hne _).mono ?_; rintro e w1 ⟨rfl, hb⟩; have HB1 := Aside0.mk (below_step (by repeat (first | exact HB0.out | apply below_alloc | apply pw_below_drewN | apply below_drew1)) hb); have HXn_1 := Aside0.mk (blk_below (by repeat (first | exact HXn_0.out | apply blk_alloc | apply blk_drewN | apply blk_drew)) hb); clear hb; have zn0_1 := (blk_cell HXn_1.out 0).trans (show _ = some (Value.string a0) from rfl); have zn1_1 := (blk_cell HXn_1.out 1).trans (show _ = some (Value.string a1) from rfl); have zn2_1 := (blk_cell HXn_1.out 2).trans (show _ = some (Value.int .u8 a2) from rfl); have zn3_1 := (blk_cell HXn_1.out 3).trans (show _ = some (Value.int .i64 a3) from rfl); have zn4_1 := (blk_cell HXn_1.out 4).trans (show _ = some (Value.int .i64 a4) from rfl); have zn5_1 := (blk_cell HXn_1.out 5).trans (show _ = some (Value.int .i64 a5) from rfl); have zn6_1 := (blk_cell HXn_1.out 6).trans (show _ = some (Value.int .i64 a6) from rfl); have zn7_1 := (blk_cell HXn_1.out 7).trans (show _ = some (Value.string a7) from rfl))
  clear hne HB0 HXn_0
  go_cut [5] (fun v5 wc => Aside0 (Kd.R kRow 41 wc w.heap.size (fun _ => True) v5 x) ∧ Aside0 (wc.heap[w.heap.size]? = some (.cells #[.string a0, .string a1, .int .u8 a2, .int .i64 a3, .int .i64 a4, .int .i64 a5, .int .i64 a6, .string a7] 23 (0, 0))) ∧ Aside0 (Below w.heap.size w wc))
  case first =>
    cases q2 with
    | true =>
      go_upto_region 5 with (first | (go_at_call 34; refine (refPut_at k 75 a1 x A2.out w.heap.size _ HB1.out.size).mono ?_; rintro e w2 ⟨B2, c2, is2, rfl, HR2, hb⟩; have HB2 := Aside0.mk (below_step (by repeat (first | exact HB1.out | apply below_alloc | apply pw_below_drewN | apply below_drew1)) hb); have HXn_2 := Aside0.mk (blk_below (by repeat (first | exact HXn_1.out | apply blk_alloc | apply blk_drewN | apply blk_drew)) hb); clear hb; have zn0_2 := (blk_cell HXn_2.out 0).trans (show _ = some (Value.string a0) from rfl); have zn1_2 := (blk_cell HXn_2.out 1).trans (show _ = some (Value.string a1) from rfl); have zn2_2 := (blk_cell HXn_2.out 2).trans (show _ = some (Value.int .u8 a2) from rfl); have zn3_2 := (blk_cell HXn_2.out 3).trans (show _ = some (Value.int .i64 a3) from rfl); have zn4_2 := (blk_cell HXn_2.out 4).trans (show _ = some (Value.int .i64 a4) from rfl); have zn5_2 := (blk_cell HXn_2.out 5).trans (show _ = some (Value.int .i64 a5) from rfl); have zn6_2 := (blk_cell HXn_2.out 6).trans (show _ = some (Value.int .i64 a6) from rfl); have zn7_2 := (blk_cell HXn_2.out 7).trans (show _ = some (Value.string a7) from rfl)))
      have hap : (([] : List (List Int)).length + x.length) * 24 ≤ 140737488355328 := by have := HLEN.out; simp; omega
      have hnk : ∀ k, w1.heap.size ≤ k → True ∧ some k ≠ (Value.slice none 0 0).ownBlock := fun k hk => ⟨trivial, fun he => by cases he⟩
      go_wp2_with (at_builtin; refine Kd.R_append_rows kRow (w0 := w) w.heap.size rfl (.tmp 22) (.tmp 23) 24 41 (.slice none 0 0) 24 rfl Try.underlying24 info41 rfl (by decide) (by decide) _ [] x B2 x.length c2 (fun _ => True) (fun k => w1.heap.size ≤ k) rfl rfl (Kd.R_nil _ _ _ _ _) HR2.out (fun _ _ h => h) hnk (fun _ _ => trivial) HB2.out HB2.out.size hap ?_; intro v1 w3 hO hB hg hat)
      have HXn_3 := Aside0.mk (blk_grown HXn_2.out hg (fun e => by cases e))
      have HB3 := Aside0.mk hB
      have HO3 := Aside0.mk hO
      clear hO hB hg hat
      go_wp2_with (fail)
      go_meet
      case rel => exact ⟨HO3, HXn_3, HB3⟩
    | false =>
      have A2 := A2.out
      unfold refAhead at A2
      rw [if_neg (by decide)] at A2
      obtain rfl := Option.some.inj A2
      go_wp2_with (fail)
      go_meet
      case rel => exact ⟨⟨Kd.R_nil _ _ _ _ _⟩, HXn_1, HB1⟩
  case rest =>
    obtain ⟨HOc, HXn_c, HBc⟩ := hcut
    clear HB1 HXn_1 zn0_1 zn1_1 zn2_1 zn3_1 zn4_1 zn5_1 zn6_1 zn7_1
    have zn0_c := (blk_cell HXn_c.out 0).trans (show _ = some (Value.string a0) from rfl)
    have zn1_c := (blk_cell HXn_c.out 1).trans (show _ = some (Value.string a1) from rfl)
    have zn2_c := (blk_cell HXn_c.out 2).trans (show _ = some (Value.int .u8 a2) from rfl)
    have zn3_c := (blk_cell HXn_c.out 3).trans (show _ = some (Value.int .i64 a3) from rfl)
    have zn4_c := (blk_cell HXn_c.out 4).trans (show _ = some (Value.int .i64 a4) from rfl)
    have zn5_c := (blk_cell HXn_c.out 5).trans (show _ = some (Value.int .i64 a5) from rfl)
    have zn6_c := (blk_cell HXn_c.out 6).trans (show _ = some (Value.int .i64 a6) from rfl)
    have zn7_c := (blk_cell HXn_c.out 7).trans (show _ = some (Value.string a7) from rfl)
    cases q1 with
    | true =>
      go_upto_region 8 with (first | (go_at_call 34; refine (refPut_at k 76 a0 y A3.out w.heap.size _ HBc.out.size).mono ?_; rintro e w3 ⟨B3, c3, is3, rfl, HR3, hb⟩; have HB3 := Aside0.mk (below_step (by repeat (first | exact HBc.out | apply below_alloc | apply pw_below_drewN | apply below_drew1)) hb); have HXn_3 := Aside0.mk (blk_below (by repeat (first | exact HXn_c.out | apply blk_alloc | apply blk_drewN | apply blk_drew)) hb); have HB3p := Aside0.mk hb; clear hb; have zn0_3 := (blk_cell HXn_3.out 0).trans (show _ = some (Value.string a0) from rfl); have zn1_3 := (blk_cell HXn_3.out 1).trans (show _ = some (Value.string a1) from rfl); have zn2_3 := (blk_cell HXn_3.out 2).trans (show _ = some (Value.int .u8 a2) from rfl); have zn3_3 := (blk_cell HXn_3.out 3).trans (show _ = some (Value.int .i64 a3) from rfl); have zn4_3 := (blk_cell HXn_3.out 4).trans (show _ = some (Value.int .i64 a4) from rfl); have zn5_3 := (blk_cell HXn_3.out 5).trans (show _ = some (Value.int .i64 a5) from rfl); have zn6_3 := (blk_cell HXn_3.out 6).trans (show _ = some (Value.int .i64 a6) from rfl); have zn7_3 := (blk_cell HXn_3.out 7).trans (show _ = some (Value.string a7) from rfl)))
      have hap : (x.length + y.length) * 24 ≤ 140737488355328 := by have := HLEN.out; omega
      have HO3 := Aside0.mk (Kd.R_below HOc.out HB3p.out)
      have hnk : ∀ k, wc.heap.size ≤ k → True ∧ some k ≠ u5.ownBlock := fun k hk => ⟨trivial, fun he => by have := own_lt HOc.out k he.symm; omega⟩
      go_wp2_with (at_builtin; refine Kd.R_append_rows kRow (w0 := w) w.heap.size rfl (.tmp 32) (.tmp 33) 24 41 (.slice none 0 0) 24 rfl Try.underlying24 info41 rfl (by decide) (by decide) _ x y B3 y.length c3 (fun _ => True) (fun k => wc.heap.size ≤ k) rfl rfl HO3.out HR3.out (fun _ _ h => h) hnk (fun _ _ => trivial) HB3.out HB3.out.size hap ?_; intro v1 w4 hO hB hg hat; clear hg hat)
      have HB4 := Aside0.mk hB
      have HO4 := Aside0.mk hO
      clear hO hB
      go_wp2_with (fail)
      go_ret
      exact ⟨v1, rfl, HO4.out, HB4.out⟩
    | false =>
      have A3 := A3.out
      unfold refAhead at A3
      rw [if_neg (by decide)] at A3
      obtain rfl := Option.some.inj A3
      go_wp2_with (fail)
      go_ret
      exact ⟨_, rfl, HOc.out, HBc.out⟩

end Go.Proofs.Ytekfgmpldgoglaa.X
