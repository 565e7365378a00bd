import Derived.Test.YtddjnicmpgbcgaaXK
import Derived.Test.YtddjnicmpgbcgaaXGtree
import Derived.Test.YtddjnicmpgbcgaaXreelkeeperlaw06Few
import Derived.Test.YtddjnicmpgbcgaaXreelkeeperlaw06awake
namespace Go.Proofs.Ytddjnicmpgbcgaa.X
open Go.RowKit Go.Proofs.YtddjnicmpgbcgaaW.PrintWords Go.Proofs.YtddjnicmpgbcgaaW.PrintLast Go.Proofs.YtddjnicmpgbcgaaW.PrintMore
attribute [local go_sem] max2_int min2_int max_two min_two max_three min_three max_four min_four
set_option linter.unusedVariables false
set_option linter.unusedSimpArgs false

/-! ### reelkeeperlaw06_TreeFiles: function 8 -/
mutual
def reelkeeperlaw06_TreeFiles.j0 : Nat → List (S23) → Int → Bool → Bool → Option (Bool)
  | 0, _, _, _, _ => none
  | k + 1, x0, x1, x5, x35 => if x35 = true then (some x5) else (if 0 ≤ x1 then (if x1 < (x0.length : Int) then ((tree_Find.f x0 ((rd_T23 x0 x1).f1)).bind fun t105 => (if ((rd_T23 x0 x1).f2) = 49 then (if t105 ≥ 0 then (if t105 < x1 then (if 0 ≤ t105 then (if t105 < (x0.length : Int) then (reelkeeperlaw06_TreeFiles.j1 k x0 x1 (((rd_T23 x0 t105).f2) == 48)) else (none)) else (none)) else (reelkeeperlaw06_TreeFiles.j1 k x0 x1 false)) else (reelkeeperlaw06_TreeFiles.j1 k x0 x1 false)) else (reelkeeperlaw06_TreeFiles.j1 k x0 x1 true))) else (none)) else (none))
def reelkeeperlaw06_TreeFiles.j1 : Nat → List (S23) → Int → Bool → Option (Bool)
  | 0, _, _, _ => none
  | k + 1, x0, x1, x8 => reelkeeperlaw06_TreeFiles.l0 k x0 x1 x8 (-1) 0
def reelkeeperlaw06_TreeFiles.l0 : Nat → List (S23) → Int → Bool → Int → Int → Option (Bool)
  | 0, _, _, _, _, _ => none
  | k + 1, x0, x1, x8, x9, x10 => if 0 ≤ x1 then (if x1 < (x0.length : Int) then (if x10 < (((rd_T23 x0 x1).f0).size : Int) then (if 0 ≤ x10 then (if (bt ((rd_T23 x0 x1).f0) x10) = 47 then (reelkeeperlaw06_TreeFiles.l0 k x0 x1 x8 x10 (wrap64 (x10 + 1))) else (reelkeeperlaw06_TreeFiles.l0 k x0 x1 x8 x9 (wrap64 (x10 + 1)))) else (none)) else (if x9 < 0 then (some x8) else (if 0 ≤ x9 then (if x9 ≤ (((rd_T23 x0 x1).f0).size : Int) then ((tree_Find.f x0 (((rd_T23 x0 x1).f0).extract 0 (x9 : Int).toNat)).bind fun t111 => (if x8 = true then (if t111 ≥ 0 then (if t111 < x1 then (if 0 ≤ t111 then (if t111 < (x0.length : Int) then (some (((rd_T23 x0 t111).f2) == 53)) else (none)) else (none)) else (some false)) else (some false)) else (some false))) else (none)) else (none)))) else (none)) else (none)
end
def reelkeeperlaw06_TreeFiles.f (k : Nat) (l0 : List (S23)) (a1 : Int) : Option (Bool) := (reelkeeperlaw06_awake.f k).bind fun t101 => ((reelkeeperlaw06_Few.f k l0).bind fun t102 => (if t101 = true then (if t102 = true then ((tree_May.f k l0).bind fun t103 => (if t103 = true then (if a1 < 0 then (reelkeeperlaw06_TreeFiles.j0 k l0 a1 t101 true) else (reelkeeperlaw06_TreeFiles.j0 k l0 a1 t101 (decide (a1 ≥ (l0.length : Int))))) else (reelkeeperlaw06_TreeFiles.j0 k l0 a1 t101 true))) else (reelkeeperlaw06_TreeFiles.j0 k l0 a1 t101 true)) else (reelkeeperlaw06_TreeFiles.j0 k l0 a1 t101 true)))
theorem reelkeeperlaw06_TreeFiles.mono_l : ∀ k, (∀ y0 y1 y2 y3, LeO (reelkeeperlaw06_TreeFiles.j0 k y0 y1 y2 y3) (reelkeeperlaw06_TreeFiles.j0 (k + 1) y0 y1 y2 y3)) ∧ (∀ y0 y1 y2, LeO (reelkeeperlaw06_TreeFiles.j1 k y0 y1 y2) (reelkeeperlaw06_TreeFiles.j1 (k + 1) y0 y1 y2)) ∧ (∀ y0 y1 y2 y3 y4, LeO (reelkeeperlaw06_TreeFiles.l0 k y0 y1 y2 y3 y4) (reelkeeperlaw06_TreeFiles.l0 (k + 1) y0 y1 y2 y3 y4))
  | 0 => ⟨fun _ _ _ _ r h => by simp [reelkeeperlaw06_TreeFiles.j0] at h, fun _ _ _ r h => by simp [reelkeeperlaw06_TreeFiles.j1] at h, fun _ _ _ _ _ r h => by simp [reelkeeperlaw06_TreeFiles.l0] at h⟩
  | k + 1 => by
    obtain ⟨ih0, ih1, ih2⟩ := reelkeeperlaw06_TreeFiles.mono_l k
    refine ⟨?_, ?_, ?_⟩
    · intro y0 y1 y2 y3
      unfold reelkeeperlaw06_TreeFiles.j0
      repeat' first
      | (with_reducible exact ih0 _ _ _ _)
      | (with_reducible exact ih1 _ _ _)
      | (with_reducible exact ih2 _ _ _ _ _)
      | (with_reducible exact reelkeeperlaw06_Few.mono _ _)
      | (with_reducible exact reelkeeperlaw06_awake.mono _)
      | (with_reducible exact tree_May.mono _ _)
      | (with_reducible exact LeO.refl _)
      | (with_reducible exact LeO.none _)
      | (with_reducible refine LeO.ite ?_ ?_)
      | (with_reducible refine LeO.bind ?_ (fun _ => ?_))
      | exact ih0 _ _ _ _
      | exact ih1 _ _ _
      | exact ih2 _ _ _ _ _
      | exact reelkeeperlaw06_Few.mono _ _
      | exact reelkeeperlaw06_awake.mono _
      | exact tree_May.mono _ _
      | exact LeO.none _
      | refine LeO.ite ?_ ?_
      | refine LeO.bind ?_ (fun _ => ?_)
    · intro y0 y1 y2
      unfold reelkeeperlaw06_TreeFiles.j1
      repeat' first
      | (with_reducible exact ih0 _ _ _ _)
      | (with_reducible exact ih1 _ _ _)
      | (with_reducible exact ih2 _ _ _ _ _)
      | (with_reducible exact reelkeeperlaw06_Few.mono _ _)
      | (with_reducible exact reelkeeperlaw06_awake.mono _)
      | (with_reducible exact tree_May.mono _ _)
      | (with_reducible exact LeO.refl _)
      | (with_reducible exact LeO.none _)
      | (with_reducible refine LeO.ite ?_ ?_)
      | (with_reducible refine LeO.bind ?_ (fun _ => ?_))
      | exact ih0 _ _ _ _
      | exact ih1 _ _ _
      | exact ih2 _ _ _ _ _
      | exact reelkeeperlaw06_Few.mono _ _
      | exact reelkeeperlaw06_awake.mono _
      | exact tree_May.mono _ _
      | exact LeO.none _
      | refine LeO.ite ?_ ?_
      | refine LeO.bind ?_ (fun _ => ?_)
    · intro y0 y1 y2 y3 y4
      unfold reelkeeperlaw06_TreeFiles.l0
      repeat' first
      | (with_reducible exact ih0 _ _ _ _)
      | (with_reducible exact ih1 _ _ _)
      | (with_reducible exact ih2 _ _ _ _ _)
      | (with_reducible exact reelkeeperlaw06_Few.mono _ _)
      | (with_reducible exact reelkeeperlaw06_awake.mono _)
      | (with_reducible exact tree_May.mono _ _)
      | (with_reducible exact LeO.refl _)
      | (with_reducible exact LeO.none _)
      | (with_reducible refine LeO.ite ?_ ?_)
      | (with_reducible refine LeO.bind ?_ (fun _ => ?_))
      | exact ih0 _ _ _ _
      | exact ih1 _ _ _
      | exact ih2 _ _ _ _ _
      | exact reelkeeperlaw06_Few.mono _ _
      | exact reelkeeperlaw06_awake.mono _
      | exact tree_May.mono _ _
      | exact LeO.none _
      | refine LeO.ite ?_ ?_
      | refine LeO.bind ?_ (fun _ => ?_)
theorem reelkeeperlaw06_TreeFiles.mono : ∀ a0 a1 k, LeO (reelkeeperlaw06_TreeFiles.f k a0 a1) (reelkeeperlaw06_TreeFiles.f (k + 1) a0 a1) := by
  intro a0 a1 k
  obtain ⟨ih0, ih1, ih2⟩ := reelkeeperlaw06_TreeFiles.mono_l k
  unfold reelkeeperlaw06_TreeFiles.f
  repeat' first
      | (with_reducible exact ih0 _ _ _ _)
      | (with_reducible exact ih1 _ _ _)
      | (with_reducible exact ih2 _ _ _ _ _)
      | (with_reducible exact reelkeeperlaw06_Few.mono _ _)
      | (with_reducible exact reelkeeperlaw06_awake.mono _)
      | (with_reducible exact tree_May.mono _ _)
      | (with_reducible exact LeO.refl _)
      | (with_reducible exact LeO.none _)
      | (with_reducible refine LeO.ite ?_ ?_)
      | (with_reducible refine LeO.bind ?_ (fun _ => ?_))
      | exact ih0 _ _ _ _
      | exact ih1 _ _ _
      | exact ih2 _ _ _ _ _
      | exact reelkeeperlaw06_Few.mono _ _
      | exact reelkeeperlaw06_awake.mono _
      | exact tree_May.mono _ _
      | exact LeO.none _
      | refine LeO.ite ?_ ?_
      | refine LeO.bind ?_ (fun _ => ?_)
set_option maxHeartbeats 8000000 in
set_option maxRecDepth 100000 in
theorem reelkeeperlaw06_TreeFiles.calls (k : Nat) (A0 : Option Addr) (c0 : Nat) (l0 : List (S23)) (a1 : Int) (r : Bool) (w : World) (hr0 : Kd.C k23 w A0 l0.length l0) (hc0 : l0.length ≤ c0) (h : reelkeeperlaw06_TreeFiles.f k l0 a1 = some r) :
    Calls Try.prog 8 #[.slice A0 l0.length c0, .int .i64 a1] w fun e w' => e = .returned (.bool r) ∧ Below w.heap.size w w' := by
  have HR0 := Aside0.mk hr0
  have HC0 := Aside0.mk hc0
  clear hr0 hc0
  have HB := Aside0.mk (Below.refl w.heap.size w)
  have H : ((reelkeeperlaw06_awake.f k).bind fun t101 => ((reelkeeperlaw06_Few.f k l0).bind fun t102 => (if t101 = true then (if t102 = true then ((tree_May.f k l0).bind fun t103 => (if t103 = true then (if a1 < 0 then (reelkeeperlaw06_TreeFiles.j0 k l0 a1 t101 true) else (reelkeeperlaw06_TreeFiles.j0 k l0 a1 t101 (decide (a1 ≥ (l0.length : Int))))) else (reelkeeperlaw06_TreeFiles.j0 k l0 a1 t101 true))) else (reelkeeperlaw06_TreeFiles.j0 k l0 a1 t101 true)) else (reelkeeperlaw06_TreeFiles.j0 k l0 a1 t101 true)))) = some r := h
  clear h
  replace H := Option.bind_eq_some_iff.mp H
  obtain ⟨t101, A30, H⟩ := H
  replace H : ((reelkeeperlaw06_Few.f k l0).bind fun t102 => (if t101 = true then (if t102 = true then ((tree_May.f k l0).bind fun t103 => (if t103 = true then (if a1 < 0 then (reelkeeperlaw06_TreeFiles.j0 k l0 a1 t101 true) else (reelkeeperlaw06_TreeFiles.j0 k l0 a1 t101 (decide (a1 ≥ (l0.length : Int))))) else (reelkeeperlaw06_TreeFiles.j0 k l0 a1 t101 true))) else (reelkeeperlaw06_TreeFiles.j0 k l0 a1 t101 true)) else (reelkeeperlaw06_TreeFiles.j0 k l0 a1 t101 true))) = some r := H
  have A3 := Aside0.mk A30
  clear A30
  replace H := Option.bind_eq_some_iff.mp H
  obtain ⟨t102, A40, H⟩ := H
  replace H : (if t101 = true then (if t102 = true then ((tree_May.f k l0).bind fun t103 => (if t103 = true then (if a1 < 0 then (reelkeeperlaw06_TreeFiles.j0 k l0 a1 t101 true) else (reelkeeperlaw06_TreeFiles.j0 k l0 a1 t101 (decide (a1 ≥ (l0.length : Int))))) else (reelkeeperlaw06_TreeFiles.j0 k l0 a1 t101 true))) else (reelkeeperlaw06_TreeFiles.j0 k l0 a1 t101 true)) else (reelkeeperlaw06_TreeFiles.j0 k l0 a1 t101 true)) = some r := H
  have A4 := Aside0.mk A40
  clear A40
  have HC5 := Aside0.mk H
  clear H
  go_enter Try.func8, Try.ntmps8
  go_upto_region 3 with (first | ((with_reducible refine gate_callee (f := 15) rfl ?_); refine goesL_ (some 12) rfl rfl Try.func15 (by kernel_rfl) rfl #[] rfl (by (try simp only [List.map_toArray, List.map_cons, List.map_nil]); first | done | rfl | (simp only [List.length_drop, List.length_take]; rfl)) ?_; (with_reducible refine (reelkeeperlaw06_awake.calls k  t101 _ A3.out).mono ?_); rintro e w6 ⟨rfl, hb⟩; refine ⟨_, rfl, ?_⟩; have n0_ := Aside0.mk (below_step (by repeat (first | (with_reducible first | exact HB.out | apply below_alloc | apply pw_below_drewN | apply below_drew1) | exact HB.out)) hb); clear HB; have HB := n0_; clear n0_; (try clear hb); (try clear hb2); (try clear hk); (try clear hi)) | ((with_reducible refine gate_callee (f := 17) rfl ?_); refine goesL_ (some 14) rfl rfl Try.func17 (by kernel_rfl) rfl #[.slice A0 l0.length c0] rfl (by (try simp only [List.map_toArray, List.map_cons, List.map_nil]); first | done | rfl | (simp only [List.length_drop, List.length_take]; rfl)) ?_; (with_reducible refine (reelkeeperlaw06_Few.calls k _ _ l0 t102 _ ?side1 ?side2 A4.out).mono ?_); (case side1 => repeat (first | exact (Kd.C_below HR0.out HB.out) | (with_reducible refine Kd.C_alloc ?_ _) | (with_reducible refine Kd.C_drewN ?_ _) | (with_reducible refine Kd.C_drew ?_))); (case side2 => exact HC0.out); rintro e w7 ⟨rfl, hb⟩; refine ⟨_, rfl, ?_⟩; have n0_ := Aside0.mk (below_step (by repeat (first | (with_reducible first | exact HB.out | apply below_alloc | apply pw_below_drewN | apply below_drew1) | exact HB.out)) hb); clear HB; have HB := n0_; clear n0_; (try clear hb); (try clear hb2); (try clear hk); (try clear hi)))
  (try simp only [Act.put, List.setIfInBounds_toArray, List.set_cons_zero, List.set_cons_succ])
  go_cut [35] (fun v35 wc => ∃ (kq : Nat) (x35_4 : Bool), v35 = .bool x35_4 ∧ Aside0 (reelkeeperlaw06_TreeFiles.j0 kq l0 a1 t101 x35_4 = some r) ∧ Aside0 (kq ≤ k) ∧ Aside0 (Below w.heap.size w wc))
  case first =>
    have H := HC5.out
    clear HC5
    by_cases c8 : t101 = true
    · subst c8
      have H1 : (if t102 = true then ((tree_May.f k l0).bind fun t103 => (if t103 = true then (if a1 < 0 then (reelkeeperlaw06_TreeFiles.j0 k l0 a1 true true) else (reelkeeperlaw06_TreeFiles.j0 k l0 a1 true (decide (a1 ≥ (l0.length : Int))))) else (reelkeeperlaw06_TreeFiles.j0 k l0 a1 true true))) else (reelkeeperlaw06_TreeFiles.j0 k l0 a1 true true)) = some r := by rw [if_pos rfl] at H; exact H
      clear H
      have H := H1
      clear H1
      by_cases c9 : t102 = true
      · subst c9
        have H1 : ((tree_May.f k l0).bind fun t103 => (if t103 = true then (if a1 < 0 then (reelkeeperlaw06_TreeFiles.j0 k l0 a1 true true) else (reelkeeperlaw06_TreeFiles.j0 k l0 a1 true (decide (a1 ≥ (l0.length : Int))))) else (reelkeeperlaw06_TreeFiles.j0 k l0 a1 true true))) = some r := by rw [if_pos rfl] at H; exact H
        clear H
        have H := H1
        clear H1
        replace H := Option.bind_eq_some_iff.mp H
        obtain ⟨t103, A100, H⟩ := H
        replace H : (if t103 = true then (if a1 < 0 then (reelkeeperlaw06_TreeFiles.j0 k l0 a1 true true) else (reelkeeperlaw06_TreeFiles.j0 k l0 a1 true (decide (a1 ≥ (l0.length : Int))))) else (reelkeeperlaw06_TreeFiles.j0 k l0 a1 true true)) = some r := H
        have A10 := Aside0.mk A100
        clear A100
        by_cases c11 : t103 = true
        · subst c11
          have H1 : (if a1 < 0 then (reelkeeperlaw06_TreeFiles.j0 k l0 a1 true true) else (reelkeeperlaw06_TreeFiles.j0 k l0 a1 true (decide (a1 ≥ (l0.length : Int))))) = some r := by rw [if_pos rfl] at H; exact H
          clear H
          have H := H1
          clear H1
          by_cases c12 : a1 < 0
          · rw [if_pos c12] at H
            have c12b0 : decide (a1 < 0) = true := decide_eq_true c12
            clear c12
            (first | rw [c12b0] | (simp only [i64_w, i32_w]; rw [c12b0]) | skip)
            have H' := Aside0.mk H
            clear H
            go_wp2_with (first | (go_at_call 24; (with_reducible refine (tree_May.calls k _ _ l0 true _ ?side1 ?side2 A10.out).mono ?_); (case side1 => repeat (first | exact (Kd.C_below HR0.out HB.out) | (with_reducible refine Kd.C_alloc ?_ _) | (with_reducible refine Kd.C_drewN ?_ _) | (with_reducible refine Kd.C_drew ?_))); (case side2 => exact HC0.out); rintro e w13 ⟨rfl, hb⟩; have n0_ := Aside0.mk (below_step (by repeat (first | (with_reducible first | exact HB.out | apply below_alloc | apply pw_below_drewN | apply below_drew1) | exact HB.out)) hb); clear HB; have HB := n0_; clear n0_; (try clear hb); (try clear hb2); (try clear hk); (try clear hi)))
            go_meet
            case rel => exact ⟨_, (true), (by first | rfl | (simp; done) | (simp [*]; done)), H', ⟨by first | omega | exact Nat.le_refl _⟩, ⟨by repeat (first | (with_reducible first | exact HB.out | apply below_alloc | apply pw_below_drewN | apply below_drew1) | exact HB.out)⟩⟩
          · rw [if_neg c12] at H
            have c12b0 : decide (a1 < 0) = false := decide_eq_false c12
            clear c12
            (first | rw [c12b0] | (simp only [i64_w, i32_w]; rw [c12b0]) | skip)
            have H' := Aside0.mk H
            clear H
            go_wp2_with (first | (go_at_call 24; (with_reducible refine (tree_May.calls k _ _ l0 true _ ?side1 ?side2 A10.out).mono ?_); (case side1 => repeat (first | exact (Kd.C_below HR0.out HB.out) | (with_reducible refine Kd.C_alloc ?_ _) | (with_reducible refine Kd.C_drewN ?_ _) | (with_reducible refine Kd.C_drew ?_))); (case side2 => exact HC0.out); rintro e w14 ⟨rfl, hb⟩; have n0_ := Aside0.mk (below_step (by repeat (first | (with_reducible first | exact HB.out | apply below_alloc | apply pw_below_drewN | apply below_drew1) | exact HB.out)) hb); clear HB; have HB := n0_; clear n0_; (try clear hb); (try clear hb2); (try clear hk); (try clear hi)))
            go_meet
            case rel => exact ⟨_, (decide (a1 ≥ (l0.length : Int))), (by first | rfl | (simp; done) | (simp [*]; done)), H', ⟨by first | omega | exact Nat.le_refl _⟩, ⟨by repeat (first | (with_reducible first | exact HB.out | apply below_alloc | apply pw_below_drewN | apply below_drew1) | exact HB.out)⟩⟩
        · replace c11 := Bool.eq_false_iff.mpr c11
          subst c11
          have H1 : (reelkeeperlaw06_TreeFiles.j0 k l0 a1 true true) = some r := by rw [if_neg (show ¬ (false = true) by decide)] at H; exact H
          clear H
          have H := H1
          clear H1
          have H' := Aside0.mk H
          clear H
          go_wp2_with (first | (go_at_call 24; (with_reducible refine (tree_May.calls k _ _ l0 false _ ?side1 ?side2 A10.out).mono ?_); (case side1 => repeat (first | exact (Kd.C_below HR0.out HB.out) | (with_reducible refine Kd.C_alloc ?_ _) | (with_reducible refine Kd.C_drewN ?_ _) | (with_reducible refine Kd.C_drew ?_))); (case side2 => exact HC0.out); rintro e w15 ⟨rfl, hb⟩; have n0_ := Aside0.mk (below_step (by repeat (first | (with_reducible first | exact HB.out | apply below_alloc | apply pw_below_drewN | apply below_drew1) | exact HB.out)) hb); clear HB; have HB := n0_; clear n0_; (try clear hb); (try clear hb2); (try clear hk); (try clear hi)))
          go_meet
          case rel => exact ⟨_, (true), (by first | rfl | (simp; done) | (simp [*]; done)), H', ⟨by first | omega | exact Nat.le_refl _⟩, ⟨by repeat (first | (with_reducible first | exact HB.out | apply below_alloc | apply pw_below_drewN | apply below_drew1) | exact HB.out)⟩⟩
      · replace c9 := Bool.eq_false_iff.mpr c9
        subst c9
        have H1 : (reelkeeperlaw06_TreeFiles.j0 k l0 a1 true true) = some r := by rw [if_neg (show ¬ (false = true) by decide)] at H; exact H
        clear H
        have H := H1
        clear H1
        have H' := Aside0.mk H
        clear H
        go_wp2
        go_meet
        case rel => exact ⟨_, (true), (by first | rfl | (simp; done) | (simp [*]; done)), H', ⟨by first | omega | exact Nat.le_refl _⟩, ⟨by repeat (first | (with_reducible first | exact HB.out | apply below_alloc | apply pw_below_drewN | apply below_drew1) | exact HB.out)⟩⟩
    · replace c8 := Bool.eq_false_iff.mpr c8
      subst c8
      have H1 : (reelkeeperlaw06_TreeFiles.j0 k l0 a1 false true) = some r := by rw [if_neg (show ¬ (false = true) by decide)] at H; exact H
      clear H
      have H := H1
      clear H1
      have H' := Aside0.mk H
      clear H
      go_wp2
      go_meet
      case rel => exact ⟨_, (true), (by first | rfl | (simp; done) | (simp [*]; done)), H', ⟨by first | omega | exact Nat.le_refl _⟩, ⟨by repeat (first | (with_reducible first | exact HB.out | apply below_alloc | apply pw_below_drewN | apply below_drew1) | exact HB.out)⟩⟩
  case rest =>
    clear HC5
    try clear c1
    try clear p2
    try clear c8
    try clear c9
    try clear c11
    try clear c12
    try clear c12b0
    try clear c15
    obtain ⟨kq, x35_4, rfl, HA, HJ4, HB⟩ := hcut
    cases kq with
    | zero => exact absurd HA.out (by simp [reelkeeperlaw06_TreeFiles.j0])
    | succ kj4 =>
      have H := HA.out
      clear HA
      simp only [reelkeeperlaw06_TreeFiles.j0] at H
      by_cases c16 : x35_4 = true
      · subst c16
        have H1 : (some t101) = some r := by rw [if_pos rfl] at H; exact H
        clear H
        have H := H1
        clear H1
        obtain rfl := Option.some.inj H
        go_wp2
        go_ret
        exact ⟨by first | rfl | (simp [errW_none, errW_some] <;> rfl) | (simp [*, errW_none, errW_some] <;> rfl), by repeat (first | (with_reducible first | exact HB.out | apply below_alloc | apply pw_below_drewN | apply below_drew1) | exact HB.out)⟩
      · replace c16 := Bool.eq_false_iff.mpr c16
        subst c16
        have H1 : (if 0 ≤ a1 then (if a1 < (l0.length : Int) then ((tree_Find.f l0 ((rd_T23 l0 a1).f1)).bind fun t105 => (if ((rd_T23 l0 a1).f2) = 49 then (if t105 ≥ 0 then (if t105 < a1 then (if 0 ≤ t105 then (if t105 < (l0.length : Int) then (reelkeeperlaw06_TreeFiles.j1 kj4 l0 a1 (((rd_T23 l0 t105).f2) == 48)) else (none)) else (none)) else (reelkeeperlaw06_TreeFiles.j1 kj4 l0 a1 false)) else (reelkeeperlaw06_TreeFiles.j1 kj4 l0 a1 false)) else (reelkeeperlaw06_TreeFiles.j1 kj4 l0 a1 true))) else (none)) else (none)) = some r := by rw [if_neg (show ¬ (false = true) by decide)] at H; exact H
        clear H
        have H := H1
        clear H1
        by_cases c17 : 0 ≤ a1
        · rw [if_pos c17] at H
          have c17b0 : decide (0 ≤ a1) = true := decide_eq_true c17
          clear c17
          by_cases c18 : a1 < (l0.length : Int)
          · rw [if_pos c18] at H
            have c18b0 : decide (a1 < (l0.length : Int)) = true := decide_eq_true c18
            clear c18
            replace H := Option.bind_eq_some_iff.mp H
            obtain ⟨t105, A190, H⟩ := H
            replace H : (if ((rd_T23 l0 a1).f2) = 49 then (if t105 ≥ 0 then (if t105 < a1 then (if 0 ≤ t105 then (if t105 < (l0.length : Int) then (reelkeeperlaw06_TreeFiles.j1 kj4 l0 a1 (((rd_T23 l0 t105).f2) == 48)) else (none)) else (none)) else (reelkeeperlaw06_TreeFiles.j1 kj4 l0 a1 false)) else (reelkeeperlaw06_TreeFiles.j1 kj4 l0 a1 false)) else (reelkeeperlaw06_TreeFiles.j1 kj4 l0 a1 true)) = some r := H
            have A19 := Aside0.mk A190
            clear A190
            have HC20 := Aside0.mk H
            clear H
            have p104 : 0 ≤ (a1 : Int) := of_decide_eq_true (by first | (with_reducible assumption) | assumption)
            have q104 : a1 < (l0.length : Int) := of_decide_eq_true (by first | (with_reducible assumption) | assumption)
            obtain ⟨ad104, e104, hx104_0, hx104_1, hx104_2, hx104_3, hx104_4, hx104_5, hx104_6, hx104_7⟩ := at_T23 HR0.out a1 p104 q104
            cases e104
            replace hx104_0 := (HB.out.cell (World.block_lt_of_cell? w _ hx104_0)).trans hx104_0
            replace hx104_1 := (HB.out.cell (World.block_lt_of_cell? w _ hx104_1)).trans hx104_1
            replace hx104_2 := (HB.out.cell (World.block_lt_of_cell? w _ hx104_2)).trans hx104_2
            replace hx104_3 := (HB.out.cell (World.block_lt_of_cell? w _ hx104_3)).trans hx104_3
            replace hx104_4 := (HB.out.cell (World.block_lt_of_cell? w _ hx104_4)).trans hx104_4
            replace hx104_5 := (HB.out.cell (World.block_lt_of_cell? w _ hx104_5)).trans hx104_5
            replace hx104_6 := (HB.out.cell (World.block_lt_of_cell? w _ hx104_6)).trans hx104_6
            replace hx104_7 := (HB.out.cell (World.block_lt_of_cell? w _ hx104_7)).trans hx104_7
            replace p104 := eq_true p104
            replace q104 := eq_true q104
            go_upto_region 6 with (first | ((with_reducible refine gate_callee (f := 26) rfl ?_); refine goesL_ (some 43) rfl rfl Try.func26 (by kernel_rfl) rfl #[.slice (some ad104) l0.length c0, .string ((rd_T23 l0 a1).f1)] rfl (by (try simp only [List.map_toArray, List.map_cons, List.map_nil]); first | done | rfl | (simp only [List.length_drop, List.length_take]; rfl)) ?_; (with_reducible refine (tree_Find.calls _ _ l0 ((rd_T23 l0 a1).f1) t105 _ ?side1 ?side2 A19.out).mono ?_); (case side1 => repeat (first | exact (Kd.C_below HR0.out HB.out) | (with_reducible refine Kd.C_alloc ?_ _) | (with_reducible refine Kd.C_drewN ?_ _) | (with_reducible refine Kd.C_drew ?_))); (case side2 => exact HC0.out); rintro e w21 ⟨rfl, hb⟩; refine ⟨_, rfl, ?_⟩; have n0_ := Aside0.mk (below_step (by repeat (first | (with_reducible first | exact HB.out | apply below_alloc | apply pw_below_drewN | apply below_drew1) | exact HB.out)) hb); clear HB; have HB := n0_; clear n0_; (try clear hb); (try clear hb2); (try clear hk); (try clear hi)))
            (try simp only [Act.put, List.setIfInBounds_toArray, List.set_cons_zero, List.set_cons_succ])
            go_cut [8] (fun v8 wc => ∃ (kq : Nat) (x8_19 : Bool), v8 = .bool x8_19 ∧ Aside0 (reelkeeperlaw06_TreeFiles.j1 kq l0 a1 x8_19 = some r) ∧ Aside0 (kq ≤ kj4) ∧ Aside0 (Below w.heap.size w wc))
            case first =>
              have H := HC20.out
              clear HC20
              by_cases c22 : ((rd_T23 l0 a1).f2) = 49
              · rw [if_pos c22] at H
                have c22b0 : (((rd_T23 l0 a1).f2) == 49) = true := beq_iff_eq.mpr c22
                have c22b1 : (((rd_T23 l0 a1).f2) != 49) = false := bne_eq_false_iff_eq.mpr c22
                clear c22
                (first | rw [c22b0] | (simp only [i64_w, i32_w]; rw [c22b0]) | skip)
                by_cases c23 : t105 ≥ 0
                · rw [if_pos c23] at H
                  have c23b0 : decide (0 ≤ t105) = true := decide_eq_true c23
                  clear c23
                  by_cases c24 : t105 < a1
                  · rw [if_pos c24] at H
                    have c24b0 : decide (t105 < a1) = true := decide_eq_true c24
                    clear c24
                    by_cases c25 : 0 ≤ t105
                    · rw [if_pos c25] at H
                      have c25b0 : decide (0 ≤ t105) = true := decide_eq_true c25
                      clear c25
                      by_cases c26 : t105 < (l0.length : Int)
                      · rw [if_pos c26] at H
                        have c26b0 : decide (t105 < (l0.length : Int)) = true := decide_eq_true c26
                        clear c26
                        have H' := Aside0.mk H
                        clear H
                        have p106 : 0 ≤ (a1 : Int) := of_decide_eq_true (by first | (with_reducible assumption) | assumption)
                        have q106 : a1 < (l0.length : Int) := of_decide_eq_true (by first | (with_reducible assumption) | assumption)
                        obtain ⟨ad106, e106, hx106_0, hx106_1, hx106_2, hx106_3, hx106_4, hx106_5, hx106_6, hx106_7⟩ := at_T23 HR0.out a1 p106 q106
                        obtain rfl : ad104 = ad106 := (by injection e106)
                        replace hx106_0 := (HB.out.cell (World.block_lt_of_cell? w _ hx106_0)).trans hx106_0
                        replace hx106_1 := (HB.out.cell (World.block_lt_of_cell? w _ hx106_1)).trans hx106_1
                        replace hx106_2 := (HB.out.cell (World.block_lt_of_cell? w _ hx106_2)).trans hx106_2
                        replace hx106_3 := (HB.out.cell (World.block_lt_of_cell? w _ hx106_3)).trans hx106_3
                        replace hx106_4 := (HB.out.cell (World.block_lt_of_cell? w _ hx106_4)).trans hx106_4
                        replace hx106_5 := (HB.out.cell (World.block_lt_of_cell? w _ hx106_5)).trans hx106_5
                        replace hx106_6 := (HB.out.cell (World.block_lt_of_cell? w _ hx106_6)).trans hx106_6
                        replace hx106_7 := (HB.out.cell (World.block_lt_of_cell? w _ hx106_7)).trans hx106_7
                        replace p106 := eq_true p106
                        replace q106 := eq_true q106
                        have p107 : 0 ≤ (t105 : Int) := of_decide_eq_true (by first | (with_reducible assumption) | assumption)
                        have q107 : t105 < (l0.length : Int) := of_decide_eq_true (by first | (with_reducible assumption) | assumption)
                        obtain ⟨ad107, e107, hx107_0, hx107_1, hx107_2, hx107_3, hx107_4, hx107_5, hx107_6, hx107_7⟩ := at_T23 HR0.out t105 p107 q107
                        obtain rfl : ad104 = ad107 := (by injection e107)
                        replace hx107_0 := (HB.out.cell (World.block_lt_of_cell? w _ hx107_0)).trans hx107_0
                        replace hx107_1 := (HB.out.cell (World.block_lt_of_cell? w _ hx107_1)).trans hx107_1
                        replace hx107_2 := (HB.out.cell (World.block_lt_of_cell? w _ hx107_2)).trans hx107_2
                        replace hx107_3 := (HB.out.cell (World.block_lt_of_cell? w _ hx107_3)).trans hx107_3
                        replace hx107_4 := (HB.out.cell (World.block_lt_of_cell? w _ hx107_4)).trans hx107_4
                        replace hx107_5 := (HB.out.cell (World.block_lt_of_cell? w _ hx107_5)).trans hx107_5
                        replace hx107_6 := (HB.out.cell (World.block_lt_of_cell? w _ hx107_6)).trans hx107_6
                        replace hx107_7 := (HB.out.cell (World.block_lt_of_cell? w _ hx107_7)).trans hx107_7
                        replace p107 := eq_true p107
                        replace q107 := eq_true q107
                        go_wp2
                        go_meet
                        case rel => exact ⟨_, ((((rd_T23 l0 t105).f2) == 48)), (by first | rfl | (simp; done) | (simp [*]; done)), H', ⟨by have := HJ4.out; first | omega | exact Nat.le_refl _⟩, ⟨by repeat (first | (with_reducible first | exact HB.out | apply below_alloc | apply pw_below_drewN | apply below_drew1) | exact HB.out)⟩⟩
                      · rw [if_neg c26] at H
                        exact absurd H (by simp)
                    · rw [if_neg c25] at H
                      exact absurd H (by simp)
                  · rw [if_neg c24] at H
                    have c24b0 : decide (t105 < a1) = false := decide_eq_false c24
                    clear c24
                    have H' := Aside0.mk H
                    clear H
                    have p106 : 0 ≤ (a1 : Int) := of_decide_eq_true (by first | (with_reducible assumption) | assumption)
                    have q106 : a1 < (l0.length : Int) := of_decide_eq_true (by first | (with_reducible assumption) | assumption)
                    obtain ⟨ad106, e106, hx106_0, hx106_1, hx106_2, hx106_3, hx106_4, hx106_5, hx106_6, hx106_7⟩ := at_T23 HR0.out a1 p106 q106
                    obtain rfl : ad104 = ad106 := (by injection e106)
                    replace hx106_0 := (HB.out.cell (World.block_lt_of_cell? w _ hx106_0)).trans hx106_0
                    replace hx106_1 := (HB.out.cell (World.block_lt_of_cell? w _ hx106_1)).trans hx106_1
                    replace hx106_2 := (HB.out.cell (World.block_lt_of_cell? w _ hx106_2)).trans hx106_2
                    replace hx106_3 := (HB.out.cell (World.block_lt_of_cell? w _ hx106_3)).trans hx106_3
                    replace hx106_4 := (HB.out.cell (World.block_lt_of_cell? w _ hx106_4)).trans hx106_4
                    replace hx106_5 := (HB.out.cell (World.block_lt_of_cell? w _ hx106_5)).trans hx106_5
                    replace hx106_6 := (HB.out.cell (World.block_lt_of_cell? w _ hx106_6)).trans hx106_6
                    replace hx106_7 := (HB.out.cell (World.block_lt_of_cell? w _ hx106_7)).trans hx106_7
                    replace p106 := eq_true p106
                    replace q106 := eq_true q106
                    go_wp2
                    go_meet
                    case rel => exact ⟨_, (false), (by first | rfl | (simp; done) | (simp [*]; done)), H', ⟨by have := HJ4.out; first | omega | exact Nat.le_refl _⟩, ⟨by repeat (first | (with_reducible first | exact HB.out | apply below_alloc | apply pw_below_drewN | apply below_drew1) | exact HB.out)⟩⟩
                · rw [if_neg c23] at H
                  have c23b0 : decide (0 ≤ t105) = false := decide_eq_false c23
                  clear c23
                  have H' := Aside0.mk H
                  clear H
                  have p106 : 0 ≤ (a1 : Int) := of_decide_eq_true (by first | (with_reducible assumption) | assumption)
                  have q106 : a1 < (l0.length : Int) := of_decide_eq_true (by first | (with_reducible assumption) | assumption)
                  obtain ⟨ad106, e106, hx106_0, hx106_1, hx106_2, hx106_3, hx106_4, hx106_5, hx106_6, hx106_7⟩ := at_T23 HR0.out a1 p106 q106
                  obtain rfl : ad104 = ad106 := (by injection e106)
                  replace hx106_0 := (HB.out.cell (World.block_lt_of_cell? w _ hx106_0)).trans hx106_0
                  replace hx106_1 := (HB.out.cell (World.block_lt_of_cell? w _ hx106_1)).trans hx106_1
                  replace hx106_2 := (HB.out.cell (World.block_lt_of_cell? w _ hx106_2)).trans hx106_2
                  replace hx106_3 := (HB.out.cell (World.block_lt_of_cell? w _ hx106_3)).trans hx106_3
                  replace hx106_4 := (HB.out.cell (World.block_lt_of_cell? w _ hx106_4)).trans hx106_4
                  replace hx106_5 := (HB.out.cell (World.block_lt_of_cell? w _ hx106_5)).trans hx106_5
                  replace hx106_6 := (HB.out.cell (World.block_lt_of_cell? w _ hx106_6)).trans hx106_6
                  replace hx106_7 := (HB.out.cell (World.block_lt_of_cell? w _ hx106_7)).trans hx106_7
                  replace p106 := eq_true p106
                  replace q106 := eq_true q106
                  go_wp2
                  go_meet
                  case rel => exact ⟨_, (false), (by first | rfl | (simp; done) | (simp [*]; done)), H', ⟨by have := HJ4.out; first | omega | exact Nat.le_refl _⟩, ⟨by repeat (first | (with_reducible first | exact HB.out | apply below_alloc | apply pw_below_drewN | apply below_drew1) | exact HB.out)⟩⟩
              · rw [if_neg c22] at H
                have c22b0 : (((rd_T23 l0 a1).f2) == 49) = false := beq_eq_false_iff_ne.mpr c22
                have c22b1 : (((rd_T23 l0 a1).f2) != 49) = true := bne_iff_ne.mpr c22
                (first | rw [c22b0] | (simp only [i64_w, i32_w]; rw [c22b0]) | skip)
                have H' := Aside0.mk H
                clear H
                have p106 : 0 ≤ (a1 : Int) := of_decide_eq_true (by first | (with_reducible assumption) | assumption)
                have q106 : a1 < (l0.length : Int) := of_decide_eq_true (by first | (with_reducible assumption) | assumption)
                obtain ⟨ad106, e106, hx106_0, hx106_1, hx106_2, hx106_3, hx106_4, hx106_5, hx106_6, hx106_7⟩ := at_T23 HR0.out a1 p106 q106
                obtain rfl : ad104 = ad106 := (by injection e106)
                replace hx106_0 := (HB.out.cell (World.block_lt_of_cell? w _ hx106_0)).trans hx106_0
                replace hx106_1 := (HB.out.cell (World.block_lt_of_cell? w _ hx106_1)).trans hx106_1
                replace hx106_2 := (HB.out.cell (World.block_lt_of_cell? w _ hx106_2)).trans hx106_2
                replace hx106_3 := (HB.out.cell (World.block_lt_of_cell? w _ hx106_3)).trans hx106_3
                replace hx106_4 := (HB.out.cell (World.block_lt_of_cell? w _ hx106_4)).trans hx106_4
                replace hx106_5 := (HB.out.cell (World.block_lt_of_cell? w _ hx106_5)).trans hx106_5
                replace hx106_6 := (HB.out.cell (World.block_lt_of_cell? w _ hx106_6)).trans hx106_6
                replace hx106_7 := (HB.out.cell (World.block_lt_of_cell? w _ hx106_7)).trans hx106_7
                replace p106 := eq_true p106
                replace q106 := eq_true q106
                go_wp2
                go_meet
                case rel => exact ⟨_, (true), (by first | rfl | (simp; done) | (simp [*]; done)), H', ⟨by have := HJ4.out; first | omega | exact Nat.le_refl _⟩, ⟨by repeat (first | (with_reducible first | exact HB.out | apply below_alloc | apply pw_below_drewN | apply below_drew1) | exact HB.out)⟩⟩
            case rest =>
              clear HC20
              try clear c1
              try clear p1
              try clear q1
              try clear hx1
              try clear c2
              try clear p2
              try clear c8
              try clear c9
              try clear p10
              try clear q10
              try clear hx10
              try clear c11
              try clear c12
              try clear c12b0
              try clear c15
              try clear c16
              try clear c17
              try clear c17b0
              try clear c18
              try clear c18b0
              try clear c22
              try clear c22b0
              try clear c22b1
              try clear c23
              try clear c23b0
              try clear c24
              try clear c24b0
              try clear c25
              try clear c25b0
              try clear c26
              try clear c26b0
              try clear hx104_0
              try clear hx104_1
              try clear hx104_2
              try clear hx104_3
              try clear hx104_4
              try clear hx104_5
              try clear hx104_6
              try clear hx104_7
              try clear hx106_0
              try clear hx106_1
              try clear hx106_2
              try clear hx106_3
              try clear hx106_4
              try clear hx106_5
              try clear hx106_6
              try clear hx106_7
              try clear hx107_0
              try clear hx107_1
              try clear hx107_2
              try clear hx107_3
              try clear hx107_4
              try clear hx107_5
              try clear hx107_6
              try clear hx107_7
              try clear p104
              try clear p106
              try clear p107
              try clear p2
              try clear q104
              try clear q106
              try clear q107
              obtain ⟨kq, x8_19, rfl, HA, HJ19, HB⟩ := hcut
              cases kq with
              | zero => exact absurd HA.out (by simp [reelkeeperlaw06_TreeFiles.j1])
              | succ kj19 =>
                have H := HA.out
                clear HA
                simp only [reelkeeperlaw06_TreeFiles.j1] at H
                have H' := Aside0.mk H
                clear H
                go_wp2
                go_loopg [9, 10] kj19 (fun kq v9 v10 w' => ∃ (x9_3 : Int) (x10_3 : Int), v9 = .int .i64 x9_3 ∧ v10 = .int .i64 x10_3 ∧ Aside0 (reelkeeperlaw06_TreeFiles.l0 kq l0 a1 x8_19 x9_3 x10_3 = some r) ∧ Aside0 (kq ≤ kj19) ∧ Aside0 (Below w.heap.size w w'))
                case atStart => exact ⟨((-1)), (0), (by first | rfl | (simp; done) | (simp [*]; done)), (by first | rfl | (simp; done) | (simp [*]; done)), H', ⟨Nat.le_refl _⟩, ⟨by repeat (first | (with_reducible first | exact HB.out | apply below_alloc | apply pw_below_drewN | apply below_drew1) | exact HB.out)⟩⟩
                case round =>
                  clear H'
                  try clear c1
                  try clear p1
                  try clear q1
                  try clear hx1
                  try clear c2
                  try clear p2
                  try clear c8
                  try clear c9
                  try clear p10
                  try clear q10
                  try clear hx10
                  try clear c11
                  try clear c12
                  try clear c12b0
                  try clear c15
                  try clear c16
                  try clear c17
                  try clear c17b0
                  try clear c18
                  try clear c18b0
                  try clear c22
                  try clear c22b0
                  try clear c22b1
                  try clear c23
                  try clear c23b0
                  try clear c24
                  try clear c24b0
                  try clear c25
                  try clear c25b0
                  try clear c26
                  try clear c26b0
                  try clear hx104_0
                  try clear hx104_1
                  try clear hx104_2
                  try clear hx104_3
                  try clear hx104_4
                  try clear hx104_5
                  try clear hx104_6
                  try clear hx104_7
                  try clear hx106_0
                  try clear hx106_1
                  try clear hx106_2
                  try clear hx106_3
                  try clear hx106_4
                  try clear hx106_5
                  try clear hx106_6
                  try clear hx106_7
                  try clear hx107_0
                  try clear hx107_1
                  try clear hx107_2
                  try clear hx107_3
                  try clear hx107_4
                  try clear hx107_5
                  try clear hx107_6
                  try clear hx107_7
                  try clear p1
                  try clear p10
                  try clear p104
                  try clear p106
                  try clear p107
                  try clear p2
                  try clear q1
                  try clear q10
                  try clear q104
                  try clear q106
                  try clear q107
                  obtain ⟨x9_3, x10_3, rfl, rfl, HA, HK3, HB⟩ := hrel
                  cases gk with
                  | zero => exact absurd HA.out (by simp [reelkeeperlaw06_TreeFiles.l0])
                  | succ k3 =>
                    have H := HA.out
                    clear HA
                    simp only [reelkeeperlaw06_TreeFiles.l0] at H
                    by_cases c27 : 0 ≤ a1
                    · rw [if_pos c27] at H
                      have c27b0 : decide (0 ≤ a1) = true := decide_eq_true c27
                      clear c27
                      by_cases c28 : a1 < (l0.length : Int)
                      · rw [if_pos c28] at H
                        have c28b0 : decide (a1 < (l0.length : Int)) = true := decide_eq_true c28
                        clear c28
                        by_cases c29 : x10_3 < (((rd_T23 l0 a1).f0).size : Int)
                        · rw [if_pos c29] at H
                          have c29b0 : decide (x10_3 < (((rd_T23 l0 a1).f0).size : Int)) = true := decide_eq_true c29
                          clear c29
                          by_cases c30 : 0 ≤ x10_3
                          · rw [if_pos c30] at H
                            have c30b0 : decide (0 ≤ x10_3) = true := decide_eq_true c30
                            clear c30
                            by_cases c32 : (bt ((rd_T23 l0 a1).f0) x10_3) = 47
                            · rw [if_pos c32] at H
                              have c32b0 : ((bt ((rd_T23 l0 a1).f0) x10_3) == 47) = true := beq_iff_eq.mpr c32
                              have c32b1 : ((bt ((rd_T23 l0 a1).f0) x10_3) != 47) = false := bne_eq_false_iff_eq.mpr c32
                              clear c32
                              have H' := Aside0.mk H
                              clear H
                              have p108 : 0 ≤ (a1 : Int) := of_decide_eq_true (by first | (with_reducible assumption) | assumption)
                              have q108 : a1 < (l0.length : Int) := of_decide_eq_true (by first | (with_reducible assumption) | assumption)
                              obtain ⟨ad108, e108, hx108_0, hx108_1, hx108_2, hx108_3, hx108_4, hx108_5, hx108_6, hx108_7⟩ := at_T23 HR0.out a1 p108 q108
                              obtain rfl : ad104 = ad108 := (by injection e108)
                              replace hx108_0 := (HB.out.cell (World.block_lt_of_cell? w _ hx108_0)).trans hx108_0
                              replace hx108_1 := (HB.out.cell (World.block_lt_of_cell? w _ hx108_1)).trans hx108_1
                              replace hx108_2 := (HB.out.cell (World.block_lt_of_cell? w _ hx108_2)).trans hx108_2
                              replace hx108_3 := (HB.out.cell (World.block_lt_of_cell? w _ hx108_3)).trans hx108_3
                              replace hx108_4 := (HB.out.cell (World.block_lt_of_cell? w _ hx108_4)).trans hx108_4
                              replace hx108_5 := (HB.out.cell (World.block_lt_of_cell? w _ hx108_5)).trans hx108_5
                              replace hx108_6 := (HB.out.cell (World.block_lt_of_cell? w _ hx108_6)).trans hx108_6
                              replace hx108_7 := (HB.out.cell (World.block_lt_of_cell? w _ hx108_7)).trans hx108_7
                              replace p108 := eq_true p108
                              replace q108 := eq_true q108
                              have p109 : 0 ≤ (a1 : Int) := of_decide_eq_true (by first | (with_reducible assumption) | assumption)
                              have q109 : a1 < (l0.length : Int) := of_decide_eq_true (by first | (with_reducible assumption) | assumption)
                              obtain ⟨ad109, e109, hx109_0, hx109_1, hx109_2, hx109_3, hx109_4, hx109_5, hx109_6, hx109_7⟩ := at_T23 HR0.out a1 p109 q109
                              obtain rfl : ad104 = ad109 := (by injection e109)
                              replace hx109_0 := (HB.out.cell (World.block_lt_of_cell? w _ hx109_0)).trans hx109_0
                              replace hx109_1 := (HB.out.cell (World.block_lt_of_cell? w _ hx109_1)).trans hx109_1
                              replace hx109_2 := (HB.out.cell (World.block_lt_of_cell? w _ hx109_2)).trans hx109_2
                              replace hx109_3 := (HB.out.cell (World.block_lt_of_cell? w _ hx109_3)).trans hx109_3
                              replace hx109_4 := (HB.out.cell (World.block_lt_of_cell? w _ hx109_4)).trans hx109_4
                              replace hx109_5 := (HB.out.cell (World.block_lt_of_cell? w _ hx109_5)).trans hx109_5
                              replace hx109_6 := (HB.out.cell (World.block_lt_of_cell? w _ hx109_6)).trans hx109_6
                              replace hx109_7 := (HB.out.cell (World.block_lt_of_cell? w _ hx109_7)).trans hx109_7
                              replace p109 := eq_true p109
                              replace q109 := eq_true q109
                              have p31 : 0 ≤ (x10_3 : Int) := of_decide_eq_true (by first | (with_reducible assumption) | assumption)
                              have q31 : x10_3 < (((rd_T23 l0 a1).f0).size : Int) := of_decide_eq_true (by first | (with_reducible assumption) | assumption)
                              have hx31 := bt_at ((rd_T23 l0 a1).f0) x10_3
                              replace p31 := eq_true p31
                              replace q31 := eq_true q31
                              go_wp2
                              go_roundg k3
                              case measure => have := HJ4.out; have := HJ19.out; have := HK3.out; omega
                              case rel => exact ⟨(x10_3), (wrap64 (x10_3 + 1)), (by first | rfl | (simp; done) | (simp [*]; done)), (by first | rfl | (simp; done) | (simp [*]; done)), H', ⟨by have := HJ4.out; have := HJ19.out; have := HK3.out; omega⟩, ⟨by repeat (first | (with_reducible first | exact HB.out | apply below_alloc | apply pw_below_drewN | apply below_drew1) | exact HB.out)⟩⟩
                            · rw [if_neg c32] at H
                              have c32b0 : ((bt ((rd_T23 l0 a1).f0) x10_3) == 47) = false := beq_eq_false_iff_ne.mpr c32
                              have c32b1 : ((bt ((rd_T23 l0 a1).f0) x10_3) != 47) = true := bne_iff_ne.mpr c32
                              have H' := Aside0.mk H
                              clear H
                              have p108 : 0 ≤ (a1 : Int) := of_decide_eq_true (by first | (with_reducible assumption) | assumption)
                              have q108 : a1 < (l0.length : Int) := of_decide_eq_true (by first | (with_reducible assumption) | assumption)
                              obtain ⟨ad108, e108, hx108_0, hx108_1, hx108_2, hx108_3, hx108_4, hx108_5, hx108_6, hx108_7⟩ := at_T23 HR0.out a1 p108 q108
                              obtain rfl : ad104 = ad108 := (by injection e108)
                              replace hx108_0 := (HB.out.cell (World.block_lt_of_cell? w _ hx108_0)).trans hx108_0
                              replace hx108_1 := (HB.out.cell (World.block_lt_of_cell? w _ hx108_1)).trans hx108_1
                              replace hx108_2 := (HB.out.cell (World.block_lt_of_cell? w _ hx108_2)).trans hx108_2
                              replace hx108_3 := (HB.out.cell (World.block_lt_of_cell? w _ hx108_3)).trans hx108_3
                              replace hx108_4 := (HB.out.cell (World.block_lt_of_cell? w _ hx108_4)).trans hx108_4
                              replace hx108_5 := (HB.out.cell (World.block_lt_of_cell? w _ hx108_5)).trans hx108_5
                              replace hx108_6 := (HB.out.cell (World.block_lt_of_cell? w _ hx108_6)).trans hx108_6
                              replace hx108_7 := (HB.out.cell (World.block_lt_of_cell? w _ hx108_7)).trans hx108_7
                              replace p108 := eq_true p108
                              replace q108 := eq_true q108
                              have p109 : 0 ≤ (a1 : Int) := of_decide_eq_true (by first | (with_reducible assumption) | assumption)
                              have q109 : a1 < (l0.length : Int) := of_decide_eq_true (by first | (with_reducible assumption) | assumption)
                              obtain ⟨ad109, e109, hx109_0, hx109_1, hx109_2, hx109_3, hx109_4, hx109_5, hx109_6, hx109_7⟩ := at_T23 HR0.out a1 p109 q109
                              obtain rfl : ad104 = ad109 := (by injection e109)
                              replace hx109_0 := (HB.out.cell (World.block_lt_of_cell? w _ hx109_0)).trans hx109_0
                              replace hx109_1 := (HB.out.cell (World.block_lt_of_cell? w _ hx109_1)).trans hx109_1
                              replace hx109_2 := (HB.out.cell (World.block_lt_of_cell? w _ hx109_2)).trans hx109_2
                              replace hx109_3 := (HB.out.cell (World.block_lt_of_cell? w _ hx109_3)).trans hx109_3
                              replace hx109_4 := (HB.out.cell (World.block_lt_of_cell? w _ hx109_4)).trans hx109_4
                              replace hx109_5 := (HB.out.cell (World.block_lt_of_cell? w _ hx109_5)).trans hx109_5
                              replace hx109_6 := (HB.out.cell (World.block_lt_of_cell? w _ hx109_6)).trans hx109_6
                              replace hx109_7 := (HB.out.cell (World.block_lt_of_cell? w _ hx109_7)).trans hx109_7
                              replace p109 := eq_true p109
                              replace q109 := eq_true q109
                              have p31 : 0 ≤ (x10_3 : Int) := of_decide_eq_true (by first | (with_reducible assumption) | assumption)
                              have q31 : x10_3 < (((rd_T23 l0 a1).f0).size : Int) := of_decide_eq_true (by first | (with_reducible assumption) | assumption)
                              have hx31 := bt_at ((rd_T23 l0 a1).f0) x10_3
                              replace p31 := eq_true p31
                              replace q31 := eq_true q31
                              go_wp2
                              go_roundg k3
                              case measure => have := HJ4.out; have := HJ19.out; have := HK3.out; omega
                              case rel => exact ⟨(x9_3), (wrap64 (x10_3 + 1)), (by first | rfl | (simp; done) | (simp [*]; done)), (by first | rfl | (simp; done) | (simp [*]; done)), H', ⟨by have := HJ4.out; have := HJ19.out; have := HK3.out; omega⟩, ⟨by repeat (first | (with_reducible first | exact HB.out | apply below_alloc | apply pw_below_drewN | apply below_drew1) | exact HB.out)⟩⟩
                          · rw [if_neg c30] at H
                            exact absurd H (by simp)
                        · rw [if_neg c29] at H
                          have c29b0 : decide (x10_3 < (((rd_T23 l0 a1).f0).size : Int)) = false := decide_eq_false c29
                          clear c29
                          by_cases c33 : x9_3 < 0
                          · rw [if_pos c33] at H
                            have c33b0 : decide (x9_3 < 0) = true := decide_eq_true c33
                            clear c33
                            obtain rfl := Option.some.inj H
                            have p108 : 0 ≤ (a1 : Int) := of_decide_eq_true (by first | (with_reducible assumption) | assumption)
                            have q108 : a1 < (l0.length : Int) := of_decide_eq_true (by first | (with_reducible assumption) | assumption)
                            obtain ⟨ad108, e108, hx108_0, hx108_1, hx108_2, hx108_3, hx108_4, hx108_5, hx108_6, hx108_7⟩ := at_T23 HR0.out a1 p108 q108
                            obtain rfl : ad104 = ad108 := (by injection e108)
                            replace hx108_0 := (HB.out.cell (World.block_lt_of_cell? w _ hx108_0)).trans hx108_0
                            replace hx108_1 := (HB.out.cell (World.block_lt_of_cell? w _ hx108_1)).trans hx108_1
                            replace hx108_2 := (HB.out.cell (World.block_lt_of_cell? w _ hx108_2)).trans hx108_2
                            replace hx108_3 := (HB.out.cell (World.block_lt_of_cell? w _ hx108_3)).trans hx108_3
                            replace hx108_4 := (HB.out.cell (World.block_lt_of_cell? w _ hx108_4)).trans hx108_4
                            replace hx108_5 := (HB.out.cell (World.block_lt_of_cell? w _ hx108_5)).trans hx108_5
                            replace hx108_6 := (HB.out.cell (World.block_lt_of_cell? w _ hx108_6)).trans hx108_6
                            replace hx108_7 := (HB.out.cell (World.block_lt_of_cell? w _ hx108_7)).trans hx108_7
                            replace p108 := eq_true p108
                            replace q108 := eq_true q108
                            go_wp2
                            go_ret
                            exact ⟨by first | rfl | (simp [errW_none, errW_some] <;> rfl) | (simp [*, errW_none, errW_some] <;> rfl), by repeat (first | (with_reducible first | exact HB.out | apply below_alloc | apply pw_below_drewN | apply below_drew1) | exact HB.out)⟩
                          · rw [if_neg c33] at H
                            have c33b0 : decide (x9_3 < 0) = false := decide_eq_false c33
                            clear c33
                            by_cases c34 : 0 ≤ x9_3
                            · rw [if_pos c34] at H
                              have c34b0 := eq_true c34
                              have c34b1 : decide (0 ≤ x9_3) = true := decide_eq_true c34
                              clear c34
                              by_cases c35 : x9_3 ≤ (((rd_T23 l0 a1).f0).size : Int)
                              · rw [if_pos c35] at H
                                have c35b0 := eq_true c35
                                have c35b1 : decide (x9_3 ≤ (((rd_T23 l0 a1).f0).size : Int)) = true := decide_eq_true c35
                                clear c35
                                replace H := Option.bind_eq_some_iff.mp H
                                obtain ⟨t111, A360, H⟩ := H
                                replace H : (if x8_19 = true then (if t111 ≥ 0 then (if t111 < a1 then (if 0 ≤ t111 then (if t111 < (l0.length : Int) then (some (((rd_T23 l0 t111).f2) == 53)) else (none)) else (none)) else (some false)) else (some false)) else (some false)) = some r := H
                                have A36 := Aside0.mk A360
                                clear A360
                                by_cases c37 : x8_19 = true
                                · subst c37
                                  have H1 : (if t111 ≥ 0 then (if t111 < a1 then (if 0 ≤ t111 then (if t111 < (l0.length : Int) then (some (((rd_T23 l0 t111).f2) == 53)) else (none)) else (none)) else (some false)) else (some false)) = some r := by rw [if_pos rfl] at H; exact H
                                  clear H
                                  have H := H1
                                  clear H1
                                  by_cases c38 : t111 ≥ 0
                                  · rw [if_pos c38] at H
                                    have c38b0 : decide (0 ≤ t111) = true := decide_eq_true c38
                                    clear c38
                                    by_cases c39 : t111 < a1
                                    · rw [if_pos c39] at H
                                      have c39b0 : decide (t111 < a1) = true := decide_eq_true c39
                                      clear c39
                                      by_cases c40 : 0 ≤ t111
                                      · rw [if_pos c40] at H
                                        have c40b0 : decide (0 ≤ t111) = true := decide_eq_true c40
                                        clear c40
                                        by_cases c41 : t111 < (l0.length : Int)
                                        · rw [if_pos c41] at H
                                          have c41b0 : decide (t111 < (l0.length : Int)) = true := decide_eq_true c41
                                          clear c41
                                          obtain rfl := Option.some.inj H
                                          have p108 : 0 ≤ (a1 : Int) := of_decide_eq_true (by first | (with_reducible assumption) | assumption)
                                          have q108 : a1 < (l0.length : Int) := of_decide_eq_true (by first | (with_reducible assumption) | assumption)
                                          obtain ⟨ad108, e108, hx108_0, hx108_1, hx108_2, hx108_3, hx108_4, hx108_5, hx108_6, hx108_7⟩ := at_T23 HR0.out a1 p108 q108
                                          obtain rfl : ad104 = ad108 := (by injection e108)
                                          replace hx108_0 := (HB.out.cell (World.block_lt_of_cell? w _ hx108_0)).trans hx108_0
                                          replace hx108_1 := (HB.out.cell (World.block_lt_of_cell? w _ hx108_1)).trans hx108_1
                                          replace hx108_2 := (HB.out.cell (World.block_lt_of_cell? w _ hx108_2)).trans hx108_2
                                          replace hx108_3 := (HB.out.cell (World.block_lt_of_cell? w _ hx108_3)).trans hx108_3
                                          replace hx108_4 := (HB.out.cell (World.block_lt_of_cell? w _ hx108_4)).trans hx108_4
                                          replace hx108_5 := (HB.out.cell (World.block_lt_of_cell? w _ hx108_5)).trans hx108_5
                                          replace hx108_6 := (HB.out.cell (World.block_lt_of_cell? w _ hx108_6)).trans hx108_6
                                          replace hx108_7 := (HB.out.cell (World.block_lt_of_cell? w _ hx108_7)).trans hx108_7
                                          replace p108 := eq_true p108
                                          replace q108 := eq_true q108
                                          have p110 : 0 ≤ (a1 : Int) := of_decide_eq_true (by first | (with_reducible assumption) | assumption)
                                          have q110 : a1 < (l0.length : Int) := of_decide_eq_true (by first | (with_reducible assumption) | assumption)
                                          obtain ⟨ad110, e110, hx110_0, hx110_1, hx110_2, hx110_3, hx110_4, hx110_5, hx110_6, hx110_7⟩ := at_T23 HR0.out a1 p110 q110
                                          obtain rfl : ad104 = ad110 := (by injection e110)
                                          replace hx110_0 := (HB.out.cell (World.block_lt_of_cell? w _ hx110_0)).trans hx110_0
                                          replace hx110_1 := (HB.out.cell (World.block_lt_of_cell? w _ hx110_1)).trans hx110_1
                                          replace hx110_2 := (HB.out.cell (World.block_lt_of_cell? w _ hx110_2)).trans hx110_2
                                          replace hx110_3 := (HB.out.cell (World.block_lt_of_cell? w _ hx110_3)).trans hx110_3
                                          replace hx110_4 := (HB.out.cell (World.block_lt_of_cell? w _ hx110_4)).trans hx110_4
                                          replace hx110_5 := (HB.out.cell (World.block_lt_of_cell? w _ hx110_5)).trans hx110_5
                                          replace hx110_6 := (HB.out.cell (World.block_lt_of_cell? w _ hx110_6)).trans hx110_6
                                          replace hx110_7 := (HB.out.cell (World.block_lt_of_cell? w _ hx110_7)).trans hx110_7
                                          replace p110 := eq_true p110
                                          replace q110 := eq_true q110
                                          go_wp2_with (first | ((with_reducible refine gate_callee (f := 26) rfl ?_); refine goesL_ (some 97) rfl rfl Try.func26 (by kernel_rfl) rfl #[.slice (some ad104) l0.length c0, .string (((rd_T23 l0 a1).f0).extract 0 (x9_3 : Int).toNat)] rfl (by (try simp only [List.map_toArray, List.map_cons, List.map_nil]); first | done | rfl | (simp only [List.length_drop, List.length_take]; rfl)) ?_; (with_reducible refine (tree_Find.calls _ _ l0 (((rd_T23 l0 a1).f0).extract 0 (x9_3 : Int).toNat) t111 _ ?side1 ?side2 A36.out).mono ?_); (case side1 => repeat (first | exact (Kd.C_below HR0.out HB.out) | (with_reducible refine Kd.C_alloc ?_ _) | (with_reducible refine Kd.C_drewN ?_ _) | (with_reducible refine Kd.C_drew ?_))); (case side2 => exact HC0.out); rintro e w42 ⟨rfl, hb⟩; refine ⟨_, rfl, ?_⟩; have n0_ := Aside0.mk (below_step (by repeat (first | (with_reducible first | exact HB.out | apply below_alloc | apply pw_below_drewN | apply below_drew1) | exact HB.out)) hb); clear HB; have HB := n0_; clear n0_; (try clear hb); (try clear hb2); (try clear hk); (try clear hi); have p112 : 0 ≤ (t111 : Int) := of_decide_eq_true (by first | (with_reducible assumption) | assumption); have q112 : t111 < (l0.length : Int) := of_decide_eq_true (by first | (with_reducible assumption) | assumption); obtain ⟨ad112, e112, hx112_0, hx112_1, hx112_2, hx112_3, hx112_4, hx112_5, hx112_6, hx112_7⟩ := at_T23 HR0.out t111 p112 q112; obtain rfl : ad104 = ad112 := (by injection e112); replace hx112_0 := (HB.out.cell (World.block_lt_of_cell? w _ hx112_0)).trans hx112_0; replace hx112_1 := (HB.out.cell (World.block_lt_of_cell? w _ hx112_1)).trans hx112_1; replace hx112_2 := (HB.out.cell (World.block_lt_of_cell? w _ hx112_2)).trans hx112_2; replace hx112_3 := (HB.out.cell (World.block_lt_of_cell? w _ hx112_3)).trans hx112_3; replace hx112_4 := (HB.out.cell (World.block_lt_of_cell? w _ hx112_4)).trans hx112_4; replace hx112_5 := (HB.out.cell (World.block_lt_of_cell? w _ hx112_5)).trans hx112_5; replace hx112_6 := (HB.out.cell (World.block_lt_of_cell? w _ hx112_6)).trans hx112_6; replace hx112_7 := (HB.out.cell (World.block_lt_of_cell? w _ hx112_7)).trans hx112_7; replace p112 := eq_true p112; replace q112 := eq_true q112))
                                          go_ret
                                          exact ⟨by first | rfl | (simp [errW_none, errW_some] <;> rfl) | (simp [*, errW_none, errW_some] <;> rfl), by repeat (first | (with_reducible first | exact HB.out | apply below_alloc | apply pw_below_drewN | apply below_drew1) | exact HB.out)⟩
                                        · rw [if_neg c41] at H
                                          exact absurd H (by simp)
                                      · rw [if_neg c40] at H
                                        exact absurd H (by simp)
                                    · rw [if_neg c39] at H
                                      have c39b0 : decide (t111 < a1) = false := decide_eq_false c39
                                      clear c39
                                      obtain rfl := Option.some.inj H
                                      have p108 : 0 ≤ (a1 : Int) := of_decide_eq_true (by first | (with_reducible assumption) | assumption)
                                      have q108 : a1 < (l0.length : Int) := of_decide_eq_true (by first | (with_reducible assumption) | assumption)
                                      obtain ⟨ad108, e108, hx108_0, hx108_1, hx108_2, hx108_3, hx108_4, hx108_5, hx108_6, hx108_7⟩ := at_T23 HR0.out a1 p108 q108
                                      obtain rfl : ad104 = ad108 := (by injection e108)
                                      replace hx108_0 := (HB.out.cell (World.block_lt_of_cell? w _ hx108_0)).trans hx108_0
                                      replace hx108_1 := (HB.out.cell (World.block_lt_of_cell? w _ hx108_1)).trans hx108_1
                                      replace hx108_2 := (HB.out.cell (World.block_lt_of_cell? w _ hx108_2)).trans hx108_2
                                      replace hx108_3 := (HB.out.cell (World.block_lt_of_cell? w _ hx108_3)).trans hx108_3
                                      replace hx108_4 := (HB.out.cell (World.block_lt_of_cell? w _ hx108_4)).trans hx108_4
                                      replace hx108_5 := (HB.out.cell (World.block_lt_of_cell? w _ hx108_5)).trans hx108_5
                                      replace hx108_6 := (HB.out.cell (World.block_lt_of_cell? w _ hx108_6)).trans hx108_6
                                      replace hx108_7 := (HB.out.cell (World.block_lt_of_cell? w _ hx108_7)).trans hx108_7
                                      replace p108 := eq_true p108
                                      replace q108 := eq_true q108
                                      have p110 : 0 ≤ (a1 : Int) := of_decide_eq_true (by first | (with_reducible assumption) | assumption)
                                      have q110 : a1 < (l0.length : Int) := of_decide_eq_true (by first | (with_reducible assumption) | assumption)
                                      obtain ⟨ad110, e110, hx110_0, hx110_1, hx110_2, hx110_3, hx110_4, hx110_5, hx110_6, hx110_7⟩ := at_T23 HR0.out a1 p110 q110
                                      obtain rfl : ad104 = ad110 := (by injection e110)
                                      replace hx110_0 := (HB.out.cell (World.block_lt_of_cell? w _ hx110_0)).trans hx110_0
                                      replace hx110_1 := (HB.out.cell (World.block_lt_of_cell? w _ hx110_1)).trans hx110_1
                                      replace hx110_2 := (HB.out.cell (World.block_lt_of_cell? w _ hx110_2)).trans hx110_2
                                      replace hx110_3 := (HB.out.cell (World.block_lt_of_cell? w _ hx110_3)).trans hx110_3
                                      replace hx110_4 := (HB.out.cell (World.block_lt_of_cell? w _ hx110_4)).trans hx110_4
                                      replace hx110_5 := (HB.out.cell (World.block_lt_of_cell? w _ hx110_5)).trans hx110_5
                                      replace hx110_6 := (HB.out.cell (World.block_lt_of_cell? w _ hx110_6)).trans hx110_6
                                      replace hx110_7 := (HB.out.cell (World.block_lt_of_cell? w _ hx110_7)).trans hx110_7
                                      replace p110 := eq_true p110
                                      replace q110 := eq_true q110
                                      go_wp2_with (first | ((with_reducible refine gate_callee (f := 26) rfl ?_); refine goesL_ (some 97) rfl rfl Try.func26 (by kernel_rfl) rfl #[.slice (some ad104) l0.length c0, .string (((rd_T23 l0 a1).f0).extract 0 (x9_3 : Int).toNat)] rfl (by (try simp only [List.map_toArray, List.map_cons, List.map_nil]); first | done | rfl | (simp only [List.length_drop, List.length_take]; rfl)) ?_; (with_reducible refine (tree_Find.calls _ _ l0 (((rd_T23 l0 a1).f0).extract 0 (x9_3 : Int).toNat) t111 _ ?side1 ?side2 A36.out).mono ?_); (case side1 => repeat (first | exact (Kd.C_below HR0.out HB.out) | (with_reducible refine Kd.C_alloc ?_ _) | (with_reducible refine Kd.C_drewN ?_ _) | (with_reducible refine Kd.C_drew ?_))); (case side2 => exact HC0.out); rintro e w43 ⟨rfl, hb⟩; refine ⟨_, rfl, ?_⟩; have n0_ := Aside0.mk (below_step (by repeat (first | (with_reducible first | exact HB.out | apply below_alloc | apply pw_below_drewN | apply below_drew1) | exact HB.out)) hb); clear HB; have HB := n0_; clear n0_; (try clear hb); (try clear hb2); (try clear hk); (try clear hi)))
                                      go_ret
                                      exact ⟨by first | rfl | (simp [errW_none, errW_some] <;> rfl) | (simp [*, errW_none, errW_some] <;> rfl), by repeat (first | (with_reducible first | exact HB.out | apply below_alloc | apply pw_below_drewN | apply below_drew1) | exact HB.out)⟩
                                  · rw [if_neg c38] at H
                                    have c38b0 : decide (0 ≤ t111) = false := decide_eq_false c38
                                    clear c38
                                    obtain rfl := Option.some.inj H
                                    have p108 : 0 ≤ (a1 : Int) := of_decide_eq_true (by first | (with_reducible assumption) | assumption)
                                    have q108 : a1 < (l0.length : Int) := of_decide_eq_true (by first | (with_reducible assumption) | assumption)
                                    obtain ⟨ad108, e108, hx108_0, hx108_1, hx108_2, hx108_3, hx108_4, hx108_5, hx108_6, hx108_7⟩ := at_T23 HR0.out a1 p108 q108
                                    obtain rfl : ad104 = ad108 := (by injection e108)
                                    replace hx108_0 := (HB.out.cell (World.block_lt_of_cell? w _ hx108_0)).trans hx108_0
                                    replace hx108_1 := (HB.out.cell (World.block_lt_of_cell? w _ hx108_1)).trans hx108_1
                                    replace hx108_2 := (HB.out.cell (World.block_lt_of_cell? w _ hx108_2)).trans hx108_2
                                    replace hx108_3 := (HB.out.cell (World.block_lt_of_cell? w _ hx108_3)).trans hx108_3
                                    replace hx108_4 := (HB.out.cell (World.block_lt_of_cell? w _ hx108_4)).trans hx108_4
                                    replace hx108_5 := (HB.out.cell (World.block_lt_of_cell? w _ hx108_5)).trans hx108_5
                                    replace hx108_6 := (HB.out.cell (World.block_lt_of_cell? w _ hx108_6)).trans hx108_6
                                    replace hx108_7 := (HB.out.cell (World.block_lt_of_cell? w _ hx108_7)).trans hx108_7
                                    replace p108 := eq_true p108
                                    replace q108 := eq_true q108
                                    have p110 : 0 ≤ (a1 : Int) := of_decide_eq_true (by first | (with_reducible assumption) | assumption)
                                    have q110 : a1 < (l0.length : Int) := of_decide_eq_true (by first | (with_reducible assumption) | assumption)
                                    obtain ⟨ad110, e110, hx110_0, hx110_1, hx110_2, hx110_3, hx110_4, hx110_5, hx110_6, hx110_7⟩ := at_T23 HR0.out a1 p110 q110
                                    obtain rfl : ad104 = ad110 := (by injection e110)
                                    replace hx110_0 := (HB.out.cell (World.block_lt_of_cell? w _ hx110_0)).trans hx110_0
                                    replace hx110_1 := (HB.out.cell (World.block_lt_of_cell? w _ hx110_1)).trans hx110_1
                                    replace hx110_2 := (HB.out.cell (World.block_lt_of_cell? w _ hx110_2)).trans hx110_2
                                    replace hx110_3 := (HB.out.cell (World.block_lt_of_cell? w _ hx110_3)).trans hx110_3
                                    replace hx110_4 := (HB.out.cell (World.block_lt_of_cell? w _ hx110_4)).trans hx110_4
                                    replace hx110_5 := (HB.out.cell (World.block_lt_of_cell? w _ hx110_5)).trans hx110_5
                                    replace hx110_6 := (HB.out.cell (World.block_lt_of_cell? w _ hx110_6)).trans hx110_6
                                    replace hx110_7 := (HB.out.cell (World.block_lt_of_cell? w _ hx110_7)).trans hx110_7
                                    replace p110 := eq_true p110
                                    replace q110 := eq_true q110
                                    go_wp2_with (first | ((with_reducible refine gate_callee (f := 26) rfl ?_); refine goesL_ (some 97) rfl rfl Try.func26 (by kernel_rfl) rfl #[.slice (some ad104) l0.length c0, .string (((rd_T23 l0 a1).f0).extract 0 (x9_3 : Int).toNat)] rfl (by (try simp only [List.map_toArray, List.map_cons, List.map_nil]); first | done | rfl | (simp only [List.length_drop, List.length_take]; rfl)) ?_; (with_reducible refine (tree_Find.calls _ _ l0 (((rd_T23 l0 a1).f0).extract 0 (x9_3 : Int).toNat) t111 _ ?side1 ?side2 A36.out).mono ?_); (case side1 => repeat (first | exact (Kd.C_below HR0.out HB.out) | (with_reducible refine Kd.C_alloc ?_ _) | (with_reducible refine Kd.C_drewN ?_ _) | (with_reducible refine Kd.C_drew ?_))); (case side2 => exact HC0.out); rintro e w44 ⟨rfl, hb⟩; refine ⟨_, rfl, ?_⟩; have n0_ := Aside0.mk (below_step (by repeat (first | (with_reducible first | exact HB.out | apply below_alloc | apply pw_below_drewN | apply below_drew1) | exact HB.out)) hb); clear HB; have HB := n0_; clear n0_; (try clear hb); (try clear hb2); (try clear hk); (try clear hi)))
                                    go_ret
                                    exact ⟨by first | rfl | (simp [errW_none, errW_some] <;> rfl) | (simp [*, errW_none, errW_some] <;> rfl), by repeat (first | (with_reducible first | exact HB.out | apply below_alloc | apply pw_below_drewN | apply below_drew1) | exact HB.out)⟩
                                · replace c37 := Bool.eq_false_iff.mpr c37
                                  subst c37
                                  have H1 : (some false) = some r := by rw [if_neg (show ¬ (false = true) by decide)] at H; exact H
                                  clear H
                                  have H := H1
                                  clear H1
                                  obtain rfl := Option.some.inj H
                                  have p108 : 0 ≤ (a1 : Int) := of_decide_eq_true (by first | (with_reducible assumption) | assumption)
                                  have q108 : a1 < (l0.length : Int) := of_decide_eq_true (by first | (with_reducible assumption) | assumption)
                                  obtain ⟨ad108, e108, hx108_0, hx108_1, hx108_2, hx108_3, hx108_4, hx108_5, hx108_6, hx108_7⟩ := at_T23 HR0.out a1 p108 q108
                                  obtain rfl : ad104 = ad108 := (by injection e108)
                                  replace hx108_0 := (HB.out.cell (World.block_lt_of_cell? w _ hx108_0)).trans hx108_0
                                  replace hx108_1 := (HB.out.cell (World.block_lt_of_cell? w _ hx108_1)).trans hx108_1
                                  replace hx108_2 := (HB.out.cell (World.block_lt_of_cell? w _ hx108_2)).trans hx108_2
                                  replace hx108_3 := (HB.out.cell (World.block_lt_of_cell? w _ hx108_3)).trans hx108_3
                                  replace hx108_4 := (HB.out.cell (World.block_lt_of_cell? w _ hx108_4)).trans hx108_4
                                  replace hx108_5 := (HB.out.cell (World.block_lt_of_cell? w _ hx108_5)).trans hx108_5
                                  replace hx108_6 := (HB.out.cell (World.block_lt_of_cell? w _ hx108_6)).trans hx108_6
                                  replace hx108_7 := (HB.out.cell (World.block_lt_of_cell? w _ hx108_7)).trans hx108_7
                                  replace p108 := eq_true p108
                                  replace q108 := eq_true q108
                                  have p110 : 0 ≤ (a1 : Int) := of_decide_eq_true (by first | (with_reducible assumption) | assumption)
                                  have q110 : a1 < (l0.length : Int) := of_decide_eq_true (by first | (with_reducible assumption) | assumption)
                                  obtain ⟨ad110, e110, hx110_0, hx110_1, hx110_2, hx110_3, hx110_4, hx110_5, hx110_6, hx110_7⟩ := at_T23 HR0.out a1 p110 q110
                                  obtain rfl : ad104 = ad110 := (by injection e110)
                                  replace hx110_0 := (HB.out.cell (World.block_lt_of_cell? w _ hx110_0)).trans hx110_0
                                  replace hx110_1 := (HB.out.cell (World.block_lt_of_cell? w _ hx110_1)).trans hx110_1
                                  replace hx110_2 := (HB.out.cell (World.block_lt_of_cell? w _ hx110_2)).trans hx110_2
                                  replace hx110_3 := (HB.out.cell (World.block_lt_of_cell? w _ hx110_3)).trans hx110_3
                                  replace hx110_4 := (HB.out.cell (World.block_lt_of_cell? w _ hx110_4)).trans hx110_4
                                  replace hx110_5 := (HB.out.cell (World.block_lt_of_cell? w _ hx110_5)).trans hx110_5
                                  replace hx110_6 := (HB.out.cell (World.block_lt_of_cell? w _ hx110_6)).trans hx110_6
                                  replace hx110_7 := (HB.out.cell (World.block_lt_of_cell? w _ hx110_7)).trans hx110_7
                                  replace p110 := eq_true p110
                                  replace q110 := eq_true q110
                                  go_wp2_with (first | ((with_reducible refine gate_callee (f := 26) rfl ?_); refine goesL_ (some 97) rfl rfl Try.func26 (by kernel_rfl) rfl #[.slice (some ad104) l0.length c0, .string (((rd_T23 l0 a1).f0).extract 0 (x9_3 : Int).toNat)] rfl (by (try simp only [List.map_toArray, List.map_cons, List.map_nil]); first | done | rfl | (simp only [List.length_drop, List.length_take]; rfl)) ?_; (with_reducible refine (tree_Find.calls _ _ l0 (((rd_T23 l0 a1).f0).extract 0 (x9_3 : Int).toNat) t111 _ ?side1 ?side2 A36.out).mono ?_); (case side1 => repeat (first | exact (Kd.C_below HR0.out HB.out) | (with_reducible refine Kd.C_alloc ?_ _) | (with_reducible refine Kd.C_drewN ?_ _) | (with_reducible refine Kd.C_drew ?_))); (case side2 => exact HC0.out); rintro e w45 ⟨rfl, hb⟩; refine ⟨_, rfl, ?_⟩; have n0_ := Aside0.mk (below_step (by repeat (first | (with_reducible first | exact HB.out | apply below_alloc | apply pw_below_drewN | apply below_drew1) | exact HB.out)) hb); clear HB; have HB := n0_; clear n0_; (try clear hb); (try clear hb2); (try clear hk); (try clear hi)))
                                  go_ret
                                  exact ⟨by first | rfl | (simp [errW_none, errW_some] <;> rfl) | (simp [*, errW_none, errW_some] <;> rfl), by repeat (first | (with_reducible first | exact HB.out | apply below_alloc | apply pw_below_drewN | apply below_drew1) | exact HB.out)⟩
                              · rw [if_neg c35] at H
                                exact absurd H (by simp)
                            · rw [if_neg c34] at H
                              exact absurd H (by simp)
                      · rw [if_neg c28] at H
                        exact absurd H (by simp)
                    · rw [if_neg c27] at H
                      exact absurd H (by simp)
          · rw [if_neg c18] at H
            exact absurd H (by simp)
        · rw [if_neg c17] at H
          exact absurd H (by simp)

end Go.Proofs.Ytddjnicmpgbcgaa.X
