import Derived.Test.YtekfgmpldgoglaaXK
import Derived.Test.YtekfgmpldgoglaaXGreelkeeperref02
import Derived.Test.YtekfgmpldgoglaaXGreelkeeperref05
import Derived.BigQuiet
import Derived.Deep.QuietTactic
import Derived.Laws.EntriesVeiled
import Derived.WalkSpells
namespace Go.Proofs.Ytekfgmpldgoglaa.X
open Go.RowKit Go.Proofs.YtekfgmpldgoglaaW.PrintWords Go.Proofs.YtekfgmpldgoglaaW.PrintLast Go.Proofs.YtekfgmpldgoglaaW.PrintMore
attribute [local go_sem] max2_int min2_int max_two min_two
set_option linter.unusedVariables false
set_option linter.unusedSimpArgs false

set_option maxRecDepth 100000
/-- What else a node of its kind has, as the reference says. -/
def oneK (link text : Bool) (a1 : ByteArray) (a2 a3 a4 a5 a6 : Int) (a7 : ByteArray) : Bool :=
  if a2 = 48 then a1.toList.isEmpty && decide (a7.size ≤ 4000) else if a2 = 49 then link && (a7.toList.isEmpty && (a3 == 0 && (a4 == 0 && (a5 == 0 && a6 == 0)))) else if a2 = 50 then text && a7.toList.isEmpty else if a2 = 53 then a1.toList.isEmpty && a7.toList.isEmpty else false
def oneR (own link text : Bool) (a1 : ByteArray) (a2 a3 a4 a5 a6 : Int) (a7 : ByteArray) : Bool :=
  own && (!decide (a3 < 0) && (!decide (4095 < a3) && (!decide (a4 < 0) && (!decide (1099511627776 < a4) && (!decide (a5 < 0) && (!decide (1099511627776 < a5) && (!decide (a6 < 0) && (!decide (1099511627776 < a6) && oneK link text a1 a2 a3 a4 a5 a6 a7))))))))
def reelkeeperref06_One.f (k : Nat) (a0_0 a0_1 : ByteArray) (a0_2 a0_3 a0_4 a0_5 a0_6 : Int) (a0_7 : ByteArray) : Option Bool := (reelkeeperref02_May.f k a0_0).bind fun t102 => (reelkeeperref02_May.f k a0_1).bind fun t103 => (reelkeeperref05_Text.f k a0_1).bind fun t104 => some (oneR t102 t103 t104 a0_1 a0_2 a0_3 a0_4 a0_5 a0_6 a0_7)
theorem reelkeeperref06_One.mono : ∀ a0 a1 a2 a3 a4 a5 a6 a7 k, LeO (reelkeeperref06_One.f k a0 a1 a2 a3 a4 a5 a6 a7) (reelkeeperref06_One.f (k + 1) a0 a1 a2 a3 a4 a5 a6 a7) := by
  intro a0 a1 a2 a3 a4 a5 a6 a7 k
  exact LeO.bind (reelkeeperref02_May.mono _ _) (fun _ => LeO.bind (reelkeeperref02_May.mono _ _) (fun _ => LeO.bind (reelkeeperref05_Text.mono _ _) (fun _ => LeO.refl _)))
set_option maxHeartbeats 3200000 in
theorem reelkeeperref06_One.calls (k : Nat) (a0_0 a0_1 : ByteArray) (a0_2 a0_3 a0_4 a0_5 a0_6 : Int) (a0_7 : ByteArray) (r : Bool) (w : World) (h : reelkeeperref06_One.f k a0_0 a0_1 a0_2 a0_3 a0_4 a0_5 a0_6 a0_7 = some r) :
    Calls Try.prog 43 #[.agg #[.string a0_0, .string a0_1, .int .u8 a0_2, .int .i64 a0_3, .int .i64 a0_4, .int .i64 a0_5, .int .i64 a0_6, .string a0_7]] w fun e w' => e = .returned (.bool r) ∧ Below w.heap.size w w' := by
  unfold reelkeeperref06_One.f at h
  obtain ⟨own, h0, h⟩ := Option.bind_eq_some_iff.1 h
  obtain ⟨link, h1, h⟩ := Option.bind_eq_some_iff.1 h
  obtain ⟨text, h2, h⟩ := Option.bind_eq_some_iff.1 h
  obtain rfl := Option.some.inj h
  have hm0 := fun W => reelkeeperref02_May.calls k a0_0 own W h0
  have hm1 := fun W => reelkeeperref02_May.calls k a0_1 link W h1
  have htx := fun W => reelkeeperref05_Text.calls k a0_1 text W h2
  clear h h0 h1 h2
  obtain ⟨R, hR⟩ : ∃ R, oneR own link text a0_1 a0_2 a0_3 a0_4 a0_5 a0_6 a0_7 = R := ⟨_, rfl⟩
  have HR := Aside0.mk hR
  rw [hR]
  clear hR
  have HB0 := Aside0.mk (Below.refl w.heap.size w)
  have HB0 := Aside0.mk (below_alloc HB0.out (.cells #[.string a0_0, .string a0_1, .int .u8 a0_2, .int .i64 a0_3, .int .i64 a0_4, .int .i64 a0_5, .int .i64 a0_6, .string a0_7] 23))
  have HXn_0 := Aside0.mk (heap_alloc_new w (.cells #[.string a0_0, .string a0_1, .int .u8 a0_2, .int .i64 a0_3, .int .i64 a0_4, .int .i64 a0_5, .int .i64 a0_6, .string a0_7] 23))
  go_enter Try.func43, Try.ntmps43
  go_upto_region 4 with (first | (go_at_call 79; (with_reducible refine (hm0 _).mono ?_); rintro e w1 ⟨rfl, hb⟩; have HB1 := Aside0.mk (below_step (by repeat (first | exact HB0.out | apply below_alloc | apply pw_below_drewN | apply below_drew1)) hb); have HXn_1 := Aside0.mk (blk_below (by repeat (first | exact HXn_0.out | apply blk_alloc | apply blk_drewN | apply blk_drew)) hb); clear hb; obtain ⟨zn0_1, zn1_1, zn2_1, zn3_1, zn4_1, zn5_1, zn6_1, zn7_1⟩ := cells8 HXn_1.out) | (have _t := HB1; go_at_call 79; (with_reducible refine (hm1 _).mono ?_); rintro e w2 ⟨rfl, hb⟩; have HB2 := Aside0.mk (below_step (by repeat (first | exact HB1.out | apply below_alloc | apply pw_below_drewN | apply below_drew1)) hb); have HXn_2 := Aside0.mk (blk_below (by repeat (first | exact HXn_1.out | apply blk_alloc | apply blk_drewN | apply blk_drew)) hb); clear hb; obtain ⟨zn0_2, zn1_2, zn2_2, zn3_2, zn4_2, zn5_2, zn6_2, zn7_2⟩ := cells8 HXn_2.out) | (go_at_call 66; refine (htx _).mono ?_; rintro e w3 ⟨rfl, ⟨⟨nd, rfl⟩⟩⟩))
  cases own
  · go_wp2_with (fail); go_ret; exact ⟨by rw [← HR.out, oneR]; simp [oneK, *], (by repeat (first | exact HB2.out | apply pw_below_drewN | apply below_drew1))⟩
  cases g0 : decide (a0_3 < 0)
  case true => go_wp2_with (fail); go_ret; exact ⟨by rw [← HR.out, oneR]; simp [oneK, *], (by repeat (first | exact HB2.out | apply pw_below_drewN | apply below_drew1))⟩
  cases g1 : decide (4095 < a0_3)
  case true => go_wp2_with (fail); go_ret; exact ⟨by rw [← HR.out, oneR]; simp [oneK, *], (by repeat (first | exact HB2.out | apply pw_below_drewN | apply below_drew1))⟩
  cases g2 : decide (a0_4 < 0)
  case true => go_wp2_with (fail); go_ret; exact ⟨by rw [← HR.out, oneR]; simp [oneK, *], (by repeat (first | exact HB2.out | apply pw_below_drewN | apply below_drew1))⟩
  cases g3 : decide (1099511627776 < a0_4)
  case true => go_wp2_with (fail); go_ret; exact ⟨by rw [← HR.out, oneR]; simp [oneK, *], (by repeat (first | exact HB2.out | apply pw_below_drewN | apply below_drew1))⟩
  cases g4 : decide (a0_5 < 0)
  case true => go_wp2_with (fail); go_ret; exact ⟨by rw [← HR.out, oneR]; simp [oneK, *], (by repeat (first | exact HB2.out | apply pw_below_drewN | apply below_drew1))⟩
  cases g5 : decide (1099511627776 < a0_5)
  case true => go_wp2_with (fail); go_ret; exact ⟨by rw [← HR.out, oneR]; simp [oneK, *], (by repeat (first | exact HB2.out | apply pw_below_drewN | apply below_drew1))⟩
  cases g6 : decide (a0_6 < 0)
  case true => go_wp2_with (fail); go_ret; exact ⟨by rw [← HR.out, oneR]; simp [oneK, *], (by repeat (first | exact HB2.out | apply pw_below_drewN | apply below_drew1))⟩
  cases g7 : decide (1099511627776 < a0_6)
  case true => go_wp2_with (fail); go_ret; exact ⟨by rw [← HR.out, oneR]; simp [oneK, *], (by repeat (first | exact HB2.out | apply pw_below_drewN | apply below_drew1))⟩
  go_upto_region 6 with (fail)
  by_cases k1 : a0_2 = 48
  · subst k1
    cases e1 : a0_1.toList.isEmpty
    · go_wp2_with (fail); go_ret; exact ⟨by rw [← HR.out, oneR]; simp [oneK, *], (by repeat (first | exact HB2.out | apply pw_below_drewN | apply below_drew1))⟩
    · have e7 : decide ((a0_7.size : Int) ≤ 4000) = decide (a0_7.size ≤ 4000) := decide_eq_decide.2 ⟨fun _ => by omega, fun _ => by omega⟩
      go_wp2_with (fail); go_ret; exact ⟨by rw [← HR.out, oneR]; simp [oneK, *], (by repeat (first | exact HB2.out | apply pw_below_drewN | apply below_drew1))⟩
  have k1b : (a0_2 == 48) = false := beq_eq_false_iff_ne.2 k1
  by_cases k2 : a0_2 = 49
  · subst k2
    clear k1 k1b
    cases link
    · go_wp2_with (fail); go_ret; exact ⟨by rw [← HR.out, oneR]; simp [oneK, *], (by repeat (first | exact HB2.out | apply pw_below_drewN | apply below_drew1))⟩
    cases e7 : a0_7.toList.isEmpty
    · go_wp2_with (fail); go_ret; exact ⟨by rw [← HR.out, oneR]; simp [oneK, *], (by repeat (first | exact HB2.out | apply pw_below_drewN | apply below_drew1))⟩
    cases f3 : (a0_3 == 0)
    · go_wp2_with (fail); go_ret; exact ⟨by rw [← HR.out, oneR]; simp [oneK, *], (by repeat (first | exact HB2.out | apply pw_below_drewN | apply below_drew1))⟩
    cases f4 : (a0_4 == 0)
    · go_wp2_with (fail); go_ret; exact ⟨by rw [← HR.out, oneR]; simp [oneK, *], (by repeat (first | exact HB2.out | apply pw_below_drewN | apply below_drew1))⟩
    cases f5 : (a0_5 == 0)
    · go_wp2_with (fail); go_ret; exact ⟨by rw [← HR.out, oneR]; simp [oneK, *], (by repeat (first | exact HB2.out | apply pw_below_drewN | apply below_drew1))⟩
    · go_wp2_with (fail); go_ret; exact ⟨by rw [← HR.out, oneR]; simp [oneK, *], (by repeat (first | exact HB2.out | apply pw_below_drewN | apply below_drew1))⟩
  have k2b : (a0_2 == 49) = false := beq_eq_false_iff_ne.2 k2
  by_cases k3 : a0_2 = 50
  · subst k3
    clear k1 k1b k2 k2b
    cases text
    · go_wp2_with (fail); go_ret; exact ⟨by rw [← HR.out, oneR]; simp [oneK, *], (by repeat (first | exact HB2.out | apply pw_below_drewN | apply below_drew1))⟩
    · go_wp2_with (fail); go_ret; exact ⟨by rw [← HR.out, oneR]; simp [oneK, *], (by repeat (first | exact HB2.out | apply pw_below_drewN | apply below_drew1))⟩
  have k3b : (a0_2 == 50) = false := beq_eq_false_iff_ne.2 k3
  by_cases k4 : a0_2 = 53
  · subst k4
    clear k1 k1b k2 k2b k3 k3b
    cases e1 : a0_1.toList.isEmpty
    · go_wp2_with (fail); go_ret; exact ⟨by rw [← HR.out, oneR]; simp [oneK, *], (by repeat (first | exact HB2.out | apply pw_below_drewN | apply below_drew1))⟩
    · go_wp2_with (fail); go_ret; exact ⟨by rw [← HR.out, oneR]; simp [oneK, *], (by repeat (first | exact HB2.out | apply pw_below_drewN | apply below_drew1))⟩
  have k4b : (a0_2 == 53) = false := beq_eq_false_iff_ne.2 k4
  go_wp2_with (fail); go_ret; exact ⟨by rw [← HR.out, oneR]; simp [oneK, *], (by repeat (first | exact HB2.out | apply pw_below_drewN | apply below_drew1))⟩

end Go.Proofs.Ytekfgmpldgoglaa.X
