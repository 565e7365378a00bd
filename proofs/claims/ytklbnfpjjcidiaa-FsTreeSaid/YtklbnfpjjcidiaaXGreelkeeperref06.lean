import Derived.Test.YtklbnfpjjcidiaaXK
import Derived.Test.YtklbnfpjjcidiaaXE26
import Derived.Test.YtklbnfpjjcidiaaXGreelkeeperref02
import Derived.Test.YtklbnfpjjcidiaaXGreelkeeperref05
import Derived.BigQuiet
import Derived.Deep.QuietTactic
import Derived.Laws.EntriesVeiled
import Derived.WalkSpells
namespace Go.Proofs.Ytklbnfpjjcidiaa.X
open Go.RowKit Go.Proofs.YtklbnfpjjcidiaaW.PrintWords Go.Proofs.YtklbnfpjjcidiaaW.PrintLast Go.Proofs.YtklbnfpjjcidiaaW.PrintMore
attribute [local go_sem] max2_int min2_int max_two min_two
set_option linter.unusedVariables false
set_option linter.unusedSimpArgs false

set_option maxRecDepth 100000
/-- What else a node of its kind has, as the reference says. -/
def oneK (link text : Bool) (a1 : ByteArray) (a2 a3 a4 a5 a6 : Int) (a7 : ByteArray) : Bool :=
  if a2 = 48 then a1.toList.isEmpty && decide (a7.size ≤ 4000) else if a2 = 49 then link && (a7.toList.isEmpty && (a3 == 0 && (a4 == 0 && (a5 == 0 && a6 == 0)))) else if a2 = 50 then text && a7.toList.isEmpty else if a2 = 53 then a1.toList.isEmpty && a7.toList.isEmpty else false
def oneR (own link text : Bool) (a1 : ByteArray) (a2 a3 a4 a5 a6 : Int) (a7 : ByteArray) : Bool :=
  own && (!decide (a3 < 0) && (!decide (4095 < a3) && (!decide (a4 < 0) && (!decide (1099511627776 < a4) && (!decide (a5 < 0) && (!decide (1099511627776 < a5) && (!decide (a6 < 0) && (!decide (1099511627776 < a6) && oneK link text a1 a2 a3 a4 a5 a6 a7))))))))
def reelkeeperref06_One.f (k : Nat) (a0_0 a0_1 : ByteArray) (a0_2 a0_3 a0_4 a0_5 a0_6 : Int) (a0_7 : ByteArray) : Option Bool := (reelkeeperref02_May.f k a0_0).bind fun t102 => (reelkeeperref02_May.f k a0_1).bind fun t103 => (reelkeeperref05_Text.f k a0_1).bind fun t104 => some (oneR t102 t103 t104 a0_1 a0_2 a0_3 a0_4 a0_5 a0_6 a0_7)
theorem reelkeeperref06_One.mono : ∀ a0 a1 a2 a3 a4 a5 a6 a7 k, LeO (reelkeeperref06_One.f k a0 a1 a2 a3 a4 a5 a6 a7) (reelkeeperref06_One.f (k + 1) a0 a1 a2 a3 a4 a5 a6 a7) := by
  intro a0 a1 a2 a3 a4 a5 a6 a7 k
  exact LeO.bind (reelkeeperref02_May.mono _ _) (fun _ => LeO.bind (reelkeeperref02_May.mono _ _) (fun _ => LeO.bind (reelkeeperref05_Text.mono _ _) (fun _ => LeO.refl _)))
set_option maxHeartbeats 3200000 in
theorem reelkeeperref06_One.calls (k : Nat) (a0_0 a0_1 : ByteArray) (a0_2 a0_3 a0_4 a0_5 a0_6 : Int) (a0_7 : ByteArray) (r : Bool) (w : World) (h : reelkeeperref06_One.f k a0_0 a0_1 a0_2 a0_3 a0_4 a0_5 a0_6 a0_7 = some r) :
    Calls Try.prog 35 #[.agg #[.string a0_0, .string a0_1, .int .u8 a0_2, .int .i64 a0_3, .int .i64 a0_4, .int .i64 a0_5, .int .i64 a0_6, .string a0_7]] w fun e w' => e = .returned (.bool r) ∧ Below w.heap.size w w' := by
  unfold reelkeeperref06_One.f at h
  obtain ⟨own, h0, h⟩ := Option.bind_eq_some_iff.1 h
  obtain ⟨link, h1, h⟩ := Option.bind_eq_some_iff.1 h
  obtain ⟨text, h2, h⟩ := Option.bind_eq_some_iff.1 h
  obtain rfl := Option.some.inj h
  have hm0 := fun W => reelkeeperref02_May.calls k a0_0 own W h0
  have hm1 := fun W => reelkeeperref02_May.calls k a0_1 link W h1
  have htx := fun W => reelkeeperref05_Text.calls k a0_1 text W h2
  clear h h0 h1 h2
  obtain ⟨R, hR⟩ : ∃ R, oneR own link text a0_1 a0_2 a0_3 a0_4 a0_5 a0_6 a0_7 = R := ⟨_, rfl⟩
  have HR := Aside0.mk hR
  rw [hR]
  clear hR
  have HB0 := Aside0.mk (Below.refl w.heap.size w)
  have HB0 := Aside0.mk (below_alloc HB0.out (.cells #[.string a0_0, .string a0_1, .int .u8 a0_2, .int .i64 a0_3, .int .i64 a0_4, .int .i64 a0_5, .int .i64 a0_6, .string a0_7] 26))
  have HXn_0 := Aside0.mk (heap_alloc_new w (.cells #[.string a0_0, .string a0_1, .int .u8 a0_2, .int .i64 a0_3, .int .i64 a0_4, .int .i64 a0_5, .int .i64 a0_6, .string a0_7] 26))
  go_enter Try.func35, Try.ntmps35
  go_upto_region 4 with (first | (go_at_call 56; (with_reducible refine (hm0 _).mono ?_); rintro e w1 ⟨rfl, hb⟩; have HB1 := Aside0.mk (below_step (by repeat (first | exact HB0.out | apply below_alloc | apply pw_below_drewN | apply below_drew1)) hb); have HXn_1 := Aside0.mk (blk_below (by repeat (first | exact HXn_0.out | apply blk_alloc | apply blk_drewN | apply blk_drew)) hb); clear hb; obtain ⟨zn0_1, zn1_1, zn2_1, zn3_1, zn4_1, zn5_1, zn6_1, zn7_1⟩ := cells8 HXn_1.out) | (have _t := HB1; go_at_call 56; (with_reducible refine (hm1 _).mono ?_); rintro e w2 ⟨rfl, hb⟩; have HB2 := Aside0.mk (below_step (by repeat (first | exact HB1.out | apply below_alloc | apply pw_below_drewN | apply below_drew1)) hb); have HXn_2 := Aside0.mk (blk_below (by repeat (first | exact HXn_1.out | apply blk_alloc | apply blk_drewN | apply blk_drew)) hb); clear hb; obtain ⟨zn0_2, zn1_2, zn2_2, zn3_2, zn4_2, zn5_2, zn6_2, zn7_2⟩ := cells8 HXn_2.out) | (go_at_call 57; refine (htx _).mono ?_; rintro e w3 ⟨rfl, ⟨⟨nd, rfl⟩⟩⟩))
  cases own
  · go_wp2_with (fail); go_ret; exact ⟨by rw [← HR.out, oneR]; simp [oneK, *], (by repeat (first | exact HB2.out | apply pw_below_drewN | apply below_drew1))⟩
  cases g0 : decide (a0_3 < 0)
  case true => go_wp2_with (fail); go_ret; exact ⟨by rw [← HR.out, oneR]; simp [oneK, *], (by repeat (first | exact HB2.out | apply pw_below_drewN | apply below_drew1))⟩
  cases g1 : decide (4095 < a0_3)
  case true => go_wp2_with (fail); go_ret; exact ⟨by rw [← HR.out, oneR]; simp [oneK, *], (by repeat (first | exact HB2.out | apply pw_below_drewN | apply below_drew1))⟩
  cases g2 : decide (a0_4 < 0)
  case true => go_wp2_with (fail); go_ret; exact ⟨by rw [← HR.out, oneR]; simp [oneK, *], (by repeat (first | exact HB2.out | apply pw_below_drewN | apply below_drew1))⟩
  cases g3 : decide (1099511627776 < a0_4)
  case true => go_wp2_with (fail); go_ret; exact ⟨by rw [← HR.out, oneR]; simp [oneK, *], (by repeat (first | exact HB2.out | apply pw_below_drewN | apply below_drew1))⟩
  cases g4 : decide (a0_5 < 0)
  case true => go_wp2_with (fail); go_ret; exact ⟨by rw [← HR.out, oneR]; simp [oneK, *], (by repeat (first | exact HB2.out | apply pw_below_drewN | apply below_drew1))⟩
  cases g5 : decide (1099511627776 < a0_5)
  case true => go_wp2_with (fail); go_ret; exact ⟨by rw [← HR.out, oneR]; simp [oneK, *], (by repeat (first | exact HB2.out | apply pw_below_drewN | apply below_drew1))⟩
  cases g6 : decide (a0_6 < 0)
  case true => go_wp2_with (fail); go_ret; exact ⟨by rw [← HR.out, oneR]; simp [oneK, *], (by repeat (first | exact HB2.out | apply pw_below_drewN | apply below_drew1))⟩
  cases g7 : decide (1099511627776 < a0_6)
  case true => go_wp2_with (fail); go_ret; exact ⟨by rw [← HR.out, oneR]; simp [oneK, *], (by repeat (first | exact HB2.out | apply pw_below_drewN | apply below_drew1))⟩
  go_upto_region 6 with (fail)
  by_cases k1 : a0_2 = 48
  · subst k1
    cases e1 : a0_1.toList.isEmpty
    · go_wp2_with (fail); go_ret; exact ⟨by rw [← HR.out, oneR]; simp [oneK, *], (by repeat (first | exact HB2.out | apply pw_below_drewN | apply below_drew1))⟩
    · have e7 : decide ((a0_7.size : Int) ≤ 4000) = decide (a0_7.size ≤ 4000) := decide_eq_decide.2 ⟨fun _ => by omega, fun _ => by omega⟩
      go_wp2_with (fail); go_ret; exact ⟨by rw [← HR.out, oneR]; simp [oneK, *], (by repeat (first | exact HB2.out | apply pw_below_drewN | apply below_drew1))⟩
  have k1b : (a0_2 == 48) = false := beq_eq_false_iff_ne.2 k1
  by_cases k2 : a0_2 = 49
  · subst k2
    clear k1 k1b
    cases link
    · go_wp2_with (fail); go_ret; exact ⟨by rw [← HR.out, oneR]; simp [oneK, *], (by repeat (first | exact HB2.out | apply pw_below_drewN | apply below_drew1))⟩
    cases e7 : a0_7.toList.isEmpty
    · go_wp2_with (fail); go_ret; exact ⟨by rw [← HR.out, oneR]; simp [oneK, *], (by repeat (first | exact HB2.out | apply pw_below_drewN | apply below_drew1))⟩
    cases f3 : (a0_3 == 0)
    · go_wp2_with (fail); go_ret; exact ⟨by rw [← HR.out, oneR]; simp [oneK, *], (by repeat (first | exact HB2.out | apply pw_below_drewN | apply below_drew1))⟩
    cases f4 : (a0_4 == 0)
    · go_wp2_with (fail); go_ret; exact ⟨by rw [← HR.out, oneR]; simp [oneK, *], (by repeat (first | exact HB2.out | apply pw_below_drewN | apply below_drew1))⟩
    cases f5 : (a0_5 == 0)
    · go_wp2_with (fail); go_ret; exact ⟨by rw [← HR.out, oneR]; simp [oneK, *], (by repeat (first | exact HB2.out | apply pw_below_drewN | apply below_drew1))⟩
    · go_wp2_with (fail); go_ret; exact ⟨by rw [← HR.out, oneR]; simp [oneK, *], (by repeat (first | exact HB2.out | apply pw_below_drewN | apply below_drew1))⟩
  have k2b : (a0_2 == 49) = false := beq_eq_false_iff_ne.2 k2
  by_cases k3 : a0_2 = 50
  · subst k3
    clear k1 k1b k2 k2b
    cases text
    · go_wp2_with (fail); go_ret; exact ⟨by rw [← HR.out, oneR]; simp [oneK, *], (by repeat (first | exact HB2.out | apply pw_below_drewN | apply below_drew1))⟩
    · go_wp2_with (fail); go_ret; exact ⟨by rw [← HR.out, oneR]; simp [oneK, *], (by repeat (first | exact HB2.out | apply pw_below_drewN | apply below_drew1))⟩
  have k3b : (a0_2 == 50) = false := beq_eq_false_iff_ne.2 k3
  by_cases k4 : a0_2 = 53
  · subst k4
    clear k1 k1b k2 k2b k3 k3b
    cases e1 : a0_1.toList.isEmpty
    · go_wp2_with (fail); go_ret; exact ⟨by rw [← HR.out, oneR]; simp [oneK, *], (by repeat (first | exact HB2.out | apply pw_below_drewN | apply below_drew1))⟩
    · go_wp2_with (fail); go_ret; exact ⟨by rw [← HR.out, oneR]; simp [oneK, *], (by repeat (first | exact HB2.out | apply pw_below_drewN | apply below_drew1))⟩
  have k4b : (a0_2 == 53) = false := beq_eq_false_iff_ne.2 k4
  go_wp2_with (fail); go_ret; exact ⟨by rw [← HR.out, oneR]; simp [oneK, *], (by repeat (first | exact HB2.out | apply pw_below_drewN | apply below_drew1))⟩

end Go.Proofs.Ytklbnfpjjcidiaa.X
namespace Go.Proofs.Ytklbnfpjjcidiaa.X
open Go.RowKit Go.Proofs.YtklbnfpjjcidiaaW.PrintWords Go.Proofs.YtklbnfpjjcidiaaW.PrintLast Go.Proofs.YtklbnfpjjcidiaaW.PrintMore
attribute [local go_sem] max2_int min2_int max_two min_two
set_option linter.unusedVariables false
set_option linter.unusedSimpArgs false

/-! ### reelkeeperref06_Find: function 36 -/
def reelkeeperref06_Find.l0 : Nat → List (S26) → ByteArray → Int → Option (Int)
  | 0, _, _, _ => none
  | k + 1, x0, x1, x5 => if x5 < (x0.length : Int) then (if 0 ≤ x5 then (if ((rd_T26 x0 x5).f0).toList = x1.toList then (some x5) else (reelkeeperref06_Find.l0 k x0 x1 (wrap64 (x5 + 1)))) else (none)) else (some (-1))
def reelkeeperref06_Find.f (k : Nat) (l0 : List (S26)) (a1 : ByteArray) : Option (Int) := reelkeeperref06_Find.l0 k l0 a1 0
theorem reelkeeperref06_Find.mono_l : ∀ k, (∀ y0 y1 y2, LeO (reelkeeperref06_Find.l0 k y0 y1 y2) (reelkeeperref06_Find.l0 (k + 1) y0 y1 y2))
  | 0 => fun _ _ _ r h => by simp [reelkeeperref06_Find.l0] at h
  | k + 1 => by
    have ih0 := reelkeeperref06_Find.mono_l k
    · intro y0 y1 y2
      unfold reelkeeperref06_Find.l0
      repeat' first
      | (with_reducible exact ih0 _ _ _)
      | (with_reducible exact LeO.refl _)
      | (with_reducible exact LeO.none _)
      | (with_reducible refine LeO.ite ?_ ?_)
      | (with_reducible refine LeO.bind ?_ (fun _ => ?_))
      | exact ih0 _ _ _
      | exact LeO.none _
      | refine LeO.ite ?_ ?_
      | refine LeO.bind ?_ (fun _ => ?_)
theorem reelkeeperref06_Find.mono : ∀ a0 a1 k, LeO (reelkeeperref06_Find.f k a0 a1) (reelkeeperref06_Find.f (k + 1) a0 a1) := by
  intro a0 a1 k
  have ih0 := reelkeeperref06_Find.mono_l k
  unfold reelkeeperref06_Find.f
  repeat' first
      | (with_reducible exact ih0 _ _ _)
      | (with_reducible exact LeO.refl _)
      | (with_reducible exact LeO.none _)
      | (with_reducible refine LeO.ite ?_ ?_)
      | (with_reducible refine LeO.bind ?_ (fun _ => ?_))
      | exact ih0 _ _ _
      | exact LeO.none _
      | refine LeO.ite ?_ ?_
      | refine LeO.bind ?_ (fun _ => ?_)
set_option maxHeartbeats 8000000 in
set_option maxRecDepth 100000 in
theorem reelkeeperref06_Find.calls (k : Nat) (A0 : Option Addr) (c0 : Nat) (l0 : List (S26)) (a1 : ByteArray) (r : Int) (w : World) (hr0 : Kd.C k26 w A0 l0.length l0) (hc0 : l0.length ≤ c0) (h : reelkeeperref06_Find.f k l0 a1 = some r) :
    Calls Try.prog 36 #[.slice A0 l0.length c0, .string a1] w fun e w' => e = .returned (.int .i64 r) ∧ Drawn0 w w' := by
  have HR0 := Aside0.mk hr0
  have HC0 := Aside0.mk hc0
  clear hr0 hc0
  have H : (reelkeeperref06_Find.l0 k l0 a1 0) = some r := h
  clear h
  have H' := Aside0.mk H
  clear H
  go_enter Try.func36, Try.ntmps36
  go_wp2
  go_loopg [5] k (fun kq v5 w' => ∃ (x5_1 : Int), v5 = .int .i64 x5_1 ∧ Aside0 (reelkeeperref06_Find.l0 kq l0 a1 x5_1 = some r) ∧ Aside0 (kq ≤ k) ∧ Drawn0 w w')
  case atStart => exact ⟨(0), (by first | rfl | (simp; done) | (simp [*]; done)), H', ⟨Nat.le_refl _⟩, by repeat (first | exact Drawn0.refl _ | apply Drawn0.step)⟩
  case round =>
    clear H'
    try clear p2
    obtain ⟨x5_1, rfl, HA, HK1, ⟨m1, rfl⟩⟩ := hrel
    cases gk with
    | zero => exact absurd HA.out (by simp [reelkeeperref06_Find.l0])
    | succ k1 =>
      have H := HA.out
      clear HA
      simp only [reelkeeperref06_Find.l0] at H
      by_cases c3 : x5_1 < (l0.length : Int)
      · rw [if_pos c3] at H
        have c3b0 : decide (x5_1 < (l0.length : Int)) = true := decide_eq_true c3
        clear c3
        by_cases c4 : 0 ≤ x5_1
        · rw [if_pos c4] at H
          have c4b0 : decide (0 ≤ x5_1) = true := decide_eq_true c4
          clear c4
          by_cases c5 : ((rd_T26 l0 x5_1).f0).toList = a1.toList
          · rw [if_pos c5] at H
            have c5b0 : (((rd_T26 l0 x5_1).f0).toList == a1.toList) = true := beq_iff_eq.mpr c5
            have c5b1 : (((rd_T26 l0 x5_1).f0).toList != a1.toList) = false := bne_eq_false_iff_eq.mpr c5
            clear c5
            obtain rfl := Option.some.inj H
            have p101 : 0 ≤ (x5_1 : Int) := of_decide_eq_true (by first | (with_reducible assumption) | assumption)
            have q101 : x5_1 < (l0.length : Int) := of_decide_eq_true (by first | (with_reducible assumption) | assumption)
            obtain ⟨ad101, e101, hx101_0, hx101_1, hx101_2, hx101_3, hx101_4, hx101_5, hx101_6, hx101_7⟩ := at_T26 HR0.out x5_1 p101 q101
            cases e101
            replace p101 := eq_true p101
            replace q101 := eq_true q101
            go_wp2
            go_ret
            exact ⟨by first | rfl | (simp; done) | (simp [*]; done), by repeat (first | exact Drawn0.refl _ | apply Drawn0.step)⟩
          · rw [if_neg c5] at H
            have c5b0 : (((rd_T26 l0 x5_1).f0).toList == a1.toList) = false := beq_eq_false_iff_ne.mpr c5
            have c5b1 : (((rd_T26 l0 x5_1).f0).toList != a1.toList) = true := bne_iff_ne.mpr c5
            have H' := Aside0.mk H
            clear H
            have p101 : 0 ≤ (x5_1 : Int) := of_decide_eq_true (by first | (with_reducible assumption) | assumption)
            have q101 : x5_1 < (l0.length : Int) := of_decide_eq_true (by first | (with_reducible assumption) | assumption)
            obtain ⟨ad101, e101, hx101_0, hx101_1, hx101_2, hx101_3, hx101_4, hx101_5, hx101_6, hx101_7⟩ := at_T26 HR0.out x5_1 p101 q101
            cases e101
            replace p101 := eq_true p101
            replace q101 := eq_true q101
            go_wp2
            go_roundg k1
            case measure => have := HK1.out; omega
            case rel => exact ⟨(wrap64 (x5_1 + 1)), (by first | rfl | (simp; done) | (simp [*]; done)), H', ⟨by have := HK1.out; omega⟩, by repeat (first | exact Drawn0.refl _ | apply Drawn0.step)⟩
        · rw [if_neg c4] at H
          exact absurd H (by simp)
      · rw [if_neg c3] at H
        have c3b0 : decide (x5_1 < (l0.length : Int)) = false := decide_eq_false c3
        clear c3
        obtain rfl := Option.some.inj H
        go_wp2
        go_ret
        exact ⟨by first | rfl | (simp; done) | (simp [*]; done), by repeat (first | exact Drawn0.refl _ | apply Drawn0.step)⟩

end Go.Proofs.Ytklbnfpjjcidiaa.X
namespace Go.Proofs.Ytklbnfpjjcidiaa.X
open Go.RowKit Go.Proofs.YtklbnfpjjcidiaaW.PrintWords Go.Proofs.YtklbnfpjjcidiaaW.PrintLast Go.Proofs.YtklbnfpjjcidiaaW.PrintMore
attribute [local go_sem] max2_int min2_int max_two min_two
set_option linter.unusedVariables false
set_option linter.unusedSimpArgs false

attribute [local go_sem high] eqA26
/-! ### reelkeeperref06_Same: function 28 -/
def reelkeeperref06_Same.l0 : Nat → List (S26) → List (S26) → Int → Option (Bool)
  | 0, _, _, _ => none
  | k + 1, x0, x1, x5 => if x5 < (x0.length : Int) then (if 0 ≤ x5 then (if x5 < (x1.length : Int) then (if (!((((rd_T26 x0 x5).f0).toList) == (((rd_T26 x1 x5).f0).toList)) || (!((((rd_T26 x0 x5).f1).toList) == (((rd_T26 x1 x5).f1).toList)) || (!(((rd_T26 x0 x5).f2) == ((rd_T26 x1 x5).f2)) || (!(((rd_T26 x0 x5).f3) == ((rd_T26 x1 x5).f3)) || (!(((rd_T26 x0 x5).f4) == ((rd_T26 x1 x5).f4)) || (!(((rd_T26 x0 x5).f5) == ((rd_T26 x1 x5).f5)) || (!(((rd_T26 x0 x5).f6) == ((rd_T26 x1 x5).f6)) || (!((((rd_T26 x0 x5).f7).toList) == (((rd_T26 x1 x5).f7).toList)))))))))) = true then (some false) else (reelkeeperref06_Same.l0 k x0 x1 (wrap64 (x5 + 1)))) else (none)) else (none)) else (some true)
def reelkeeperref06_Same.f (k : Nat) (l0 : List (S26)) (l1 : List (S26)) : Option (Bool) := if (l0.length : Int) = (l1.length : Int) then (reelkeeperref06_Same.l0 k l0 l1 0) else (some false)
theorem reelkeeperref06_Same.mono_l : ∀ k, (∀ y0 y1 y2, LeO (reelkeeperref06_Same.l0 k y0 y1 y2) (reelkeeperref06_Same.l0 (k + 1) y0 y1 y2))
  | 0 => fun _ _ _ r h => by simp [reelkeeperref06_Same.l0] at h
  | k + 1 => by
    have ih0 := reelkeeperref06_Same.mono_l k
    · intro y0 y1 y2
      unfold reelkeeperref06_Same.l0
      repeat' first
      | (with_reducible exact ih0 _ _ _)
      | (with_reducible exact LeO.refl _)
      | (with_reducible exact LeO.none _)
      | (with_reducible refine LeO.ite ?_ ?_)
      | (with_reducible refine LeO.bind ?_ (fun _ => ?_))
      | exact ih0 _ _ _
      | exact LeO.none _
      | refine LeO.ite ?_ ?_
      | refine LeO.bind ?_ (fun _ => ?_)
theorem reelkeeperref06_Same.mono : ∀ a0 a1 k, LeO (reelkeeperref06_Same.f k a0 a1) (reelkeeperref06_Same.f (k + 1) a0 a1) := by
  intro a0 a1 k
  have ih0 := reelkeeperref06_Same.mono_l k
  unfold reelkeeperref06_Same.f
  repeat' first
      | (with_reducible exact ih0 _ _ _)
      | (with_reducible exact LeO.refl _)
      | (with_reducible exact LeO.none _)
      | (with_reducible refine LeO.ite ?_ ?_)
      | (with_reducible refine LeO.bind ?_ (fun _ => ?_))
      | exact ih0 _ _ _
      | exact LeO.none _
      | refine LeO.ite ?_ ?_
      | refine LeO.bind ?_ (fun _ => ?_)
set_option maxHeartbeats 8000000 in
set_option maxRecDepth 100000 in
theorem reelkeeperref06_Same.calls (k : Nat) (A0 : Option Addr) (c0 : Nat) (l0 : List (S26)) (A1 : Option Addr) (c1 : Nat) (l1 : List (S26)) (r : Bool) (w : World) (hr0 : Kd.C k26 w A0 l0.length l0) (hc0 : l0.length ≤ c0) (hr1 : Kd.C k26 w A1 l1.length l1) (hc1 : l1.length ≤ c1) (h : reelkeeperref06_Same.f k l0 l1 = some r) :
    Calls Try.prog 28 #[.slice A0 l0.length c0, .slice A1 l1.length c1] w fun e w' => e = .returned (.bool r) ∧ Drawn0 w w' := by
  have hu26 := Try.underlying26
  have HR0 := Aside0.mk hr0
  have HC0 := Aside0.mk hc0
  clear hr0 hc0
  have HR1 := Aside0.mk hr1
  have HC1 := Aside0.mk hc1
  clear hr1 hc1
  have H : (if (l0.length : Int) = (l1.length : Int) then (reelkeeperref06_Same.l0 k l0 l1 0) else (some false)) = some r := h
  clear h
  by_cases c3 : (l0.length : Int) = (l1.length : Int)
  · rw [if_pos c3] at H
    have c3b0 : ((l0.length : Int) == (l1.length : Int)) = true := beq_iff_eq.mpr c3
    have c3b1 : ((l0.length : Int) != (l1.length : Int)) = false := bne_eq_false_iff_eq.mpr c3
    have c3b2 : (l0.length == l1.length) = true := by first | simpa using c3 | (simp at c3 ⊢; omega)
    clear c3
    have H' := Aside0.mk H
    clear H
    go_enter Try.func28, Try.ntmps28
    go_wp2
    repeat (go_quiet (fail); try go_wp2)
    go_loopg [5] k (fun kq v5 w' => ∃ (x5_1 : Int), v5 = .int .i64 x5_1 ∧ Aside0 (reelkeeperref06_Same.l0 kq l0 l1 x5_1 = some r) ∧ Aside0 (kq ≤ k) ∧ Drawn0 w w')
    case atStart => exact ⟨(0), (by first | rfl | (simp; done) | (simp [*]; done)), H', ⟨Nat.le_refl _⟩, by repeat (first | exact Drawn0.refl _ | apply Drawn0.step)⟩
    case round =>
      clear H'
      try clear c1
      try clear c2
      try clear p2
      try clear c3
      try clear c3b0
      try clear c3b1
      try clear c3b2
      obtain ⟨x5_1, rfl, HA, HK1, ⟨m1, rfl⟩⟩ := hrel
      cases gk with
      | zero => exact absurd HA.out (by simp [reelkeeperref06_Same.l0])
      | succ k1 =>
        have H := HA.out
        clear HA
        simp only [reelkeeperref06_Same.l0] at H
        by_cases c4 : x5_1 < (l0.length : Int)
        · rw [if_pos c4] at H
          have c4b0 : decide (x5_1 < (l0.length : Int)) = true := decide_eq_true c4
          clear c4
          by_cases c5 : 0 ≤ x5_1
          · rw [if_pos c5] at H
            have c5b0 : decide (0 ≤ x5_1) = true := decide_eq_true c5
            clear c5
            by_cases c6 : x5_1 < (l1.length : Int)
            · rw [if_pos c6] at H
              have c6b0 : decide (x5_1 < (l1.length : Int)) = true := decide_eq_true c6
              clear c6
              by_cases c7 : (!((((rd_T26 l0 x5_1).f0).toList) == (((rd_T26 l1 x5_1).f0).toList)) || (!((((rd_T26 l0 x5_1).f1).toList) == (((rd_T26 l1 x5_1).f1).toList)) || (!(((rd_T26 l0 x5_1).f2) == ((rd_T26 l1 x5_1).f2)) || (!(((rd_T26 l0 x5_1).f3) == ((rd_T26 l1 x5_1).f3)) || (!(((rd_T26 l0 x5_1).f4) == ((rd_T26 l1 x5_1).f4)) || (!(((rd_T26 l0 x5_1).f5) == ((rd_T26 l1 x5_1).f5)) || (!(((rd_T26 l0 x5_1).f6) == ((rd_T26 l1 x5_1).f6)) || (!((((rd_T26 l0 x5_1).f7).toList) == (((rd_T26 l1 x5_1).f7).toList)))))))))) = true
              · rw [if_pos c7] at H
                have c7b0 : (!((((rd_T26 l0 x5_1).f0).toList) == (((rd_T26 l1 x5_1).f0).toList)) || (!((((rd_T26 l0 x5_1).f1).toList) == (((rd_T26 l1 x5_1).f1).toList)) || (!(((rd_T26 l0 x5_1).f2) == ((rd_T26 l1 x5_1).f2)) || (!(((rd_T26 l0 x5_1).f3) == ((rd_T26 l1 x5_1).f3)) || (!(((rd_T26 l0 x5_1).f4) == ((rd_T26 l1 x5_1).f4)) || (!(((rd_T26 l0 x5_1).f5) == ((rd_T26 l1 x5_1).f5)) || (!(((rd_T26 l0 x5_1).f6) == ((rd_T26 l1 x5_1).f6)) || (!((((rd_T26 l0 x5_1).f7).toList) == (((rd_T26 l1 x5_1).f7).toList)))))))))) = true := c7
                clear c7
                obtain rfl := Option.some.inj H
                have p101 : 0 ≤ (x5_1 : Int) := of_decide_eq_true (by first | (with_reducible assumption) | assumption)
                have q101 : x5_1 < (l0.length : Int) := of_decide_eq_true (by first | (with_reducible assumption) | assumption)
                obtain ⟨ad101, e101, hx101_0, hx101_1, hx101_2, hx101_3, hx101_4, hx101_5, hx101_6, hx101_7⟩ := at_T26 HR0.out x5_1 p101 q101
                cases e101
                replace p101 := eq_true p101
                replace q101 := eq_true q101
                have p102 : 0 ≤ (x5_1 : Int) := of_decide_eq_true (by first | (with_reducible assumption) | assumption)
                have q102 : x5_1 < (l1.length : Int) := of_decide_eq_true (by first | (with_reducible assumption) | assumption)
                obtain ⟨ad102, e102, hx102_0, hx102_1, hx102_2, hx102_3, hx102_4, hx102_5, hx102_6, hx102_7⟩ := at_T26 HR1.out x5_1 p102 q102
                cases e102
                replace p102 := eq_true p102
                replace q102 := eq_true q102
                go_wp2
                repeat (go_quiet (fail); try go_wp2)
                go_ret
                exact ⟨by first | rfl | (simp; done) | (simp [*]; done), by repeat (first | exact Drawn0.refl _ | apply Drawn0.step)⟩
              · rw [if_neg c7] at H
                have c7b0 : (!((((rd_T26 l0 x5_1).f0).toList) == (((rd_T26 l1 x5_1).f0).toList)) || (!((((rd_T26 l0 x5_1).f1).toList) == (((rd_T26 l1 x5_1).f1).toList)) || (!(((rd_T26 l0 x5_1).f2) == ((rd_T26 l1 x5_1).f2)) || (!(((rd_T26 l0 x5_1).f3) == ((rd_T26 l1 x5_1).f3)) || (!(((rd_T26 l0 x5_1).f4) == ((rd_T26 l1 x5_1).f4)) || (!(((rd_T26 l0 x5_1).f5) == ((rd_T26 l1 x5_1).f5)) || (!(((rd_T26 l0 x5_1).f6) == ((rd_T26 l1 x5_1).f6)) || (!((((rd_T26 l0 x5_1).f7).toList) == (((rd_T26 l1 x5_1).f7).toList)))))))))) = false := by simpa using c7
                clear c7
                have H' := Aside0.mk H
                clear H
                have p101 : 0 ≤ (x5_1 : Int) := of_decide_eq_true (by first | (with_reducible assumption) | assumption)
                have q101 : x5_1 < (l0.length : Int) := of_decide_eq_true (by first | (with_reducible assumption) | assumption)
                obtain ⟨ad101, e101, hx101_0, hx101_1, hx101_2, hx101_3, hx101_4, hx101_5, hx101_6, hx101_7⟩ := at_T26 HR0.out x5_1 p101 q101
                cases e101
                replace p101 := eq_true p101
                replace q101 := eq_true q101
                have p102 : 0 ≤ (x5_1 : Int) := of_decide_eq_true (by first | (with_reducible assumption) | assumption)
                have q102 : x5_1 < (l1.length : Int) := of_decide_eq_true (by first | (with_reducible assumption) | assumption)
                obtain ⟨ad102, e102, hx102_0, hx102_1, hx102_2, hx102_3, hx102_4, hx102_5, hx102_6, hx102_7⟩ := at_T26 HR1.out x5_1 p102 q102
                cases e102
                replace p102 := eq_true p102
                replace q102 := eq_true q102
                go_wp2
                repeat (go_quiet (fail); try go_wp2)
                go_roundg k1
                case measure => have := HK1.out; omega
                case rel => exact ⟨(wrap64 (x5_1 + 1)), (by first | rfl | (simp; done) | (simp [*]; done)), H', ⟨by have := HK1.out; omega⟩, by repeat (first | exact Drawn0.refl _ | apply Drawn0.step)⟩
            · rw [if_neg c6] at H
              exact absurd H (by simp)
          · rw [if_neg c5] at H
            exact absurd H (by simp)
        · rw [if_neg c4] at H
          have c4b0 : decide (x5_1 < (l0.length : Int)) = false := decide_eq_false c4
          clear c4
          obtain rfl := Option.some.inj H
          go_wp2
          repeat (go_quiet (fail); try go_wp2)
          go_ret
          exact ⟨by first | rfl | (simp; done) | (simp [*]; done), by repeat (first | exact Drawn0.refl _ | apply Drawn0.step)⟩
  · rw [if_neg c3] at H
    have c3b0 : ((l0.length : Int) == (l1.length : Int)) = false := beq_eq_false_iff_ne.mpr c3
    have c3b1 : ((l0.length : Int) != (l1.length : Int)) = true := bne_iff_ne.mpr c3
    have c3b2 : (l0.length == l1.length) = false := by first | simpa using c3 | (simp at c3 ⊢; omega)
    obtain rfl := Option.some.inj H
    go_enter Try.func28, Try.ntmps28
    go_wp2
    repeat (go_quiet (fail); try go_wp2)
    go_ret
    exact ⟨by first | rfl | (simp; done) | (simp [*]; done), by repeat (first | exact Drawn0.refl _ | apply Drawn0.step)⟩

end Go.Proofs.Ytklbnfpjjcidiaa.X
