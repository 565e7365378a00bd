import Derived.Test.YtddjnicmpgbcgaaXK
import Derived.Test.YtddjnicmpgbcgaaXGpath
import Derived.Test.YtddjnicmpgbcgaaXGtree
import Derived.Test.YtddjnicmpgbcgaaXreelkeeperlaw06Few
import Derived.Test.YtddjnicmpgbcgaaXreelkeeperlaw06awake
namespace Go.Proofs.Ytddjnicmpgbcgaa.X
open Go.RowKit Go.Proofs.YtddjnicmpgbcgaaW.PrintWords Go.Proofs.YtddjnicmpgbcgaaW.PrintLast Go.Proofs.YtddjnicmpgbcgaaW.PrintMore
attribute [local go_sem] max2_int min2_int max_two min_two max_three min_three max_four min_four
set_option linter.unusedVariables false
set_option linter.unusedSimpArgs false

/-! ### reelkeeperlaw06_TreeUnder: function 5 -/
def reelkeeperlaw06_TreeUnder.j0 : Nat → List (S23) → Int → Int → Bool → Bool → Option (Bool)
  | 0, _, _, _, _, _ => none
  | k + 1, x0, x1, x2, x7, x45 => if x45 = true then (some x7) else (if 0 ≤ x1 then (if x1 < (x0.length : Int) then ((tree_Under.f x0 ((rd_T23 x0 x1).f0)).bind fun t105 => (if 0 ≤ x2 then (if x2 < (x0.length : Int) then ((tree_Find.f t105 ((rd_T23 x0 x2).f0)).bind fun t109 => ((path_Below.f ((rd_T23 x0 x2).f0) ((rd_T23 x0 x1).f0)).bind fun t112 => (if ((decide (t109 ≥ 0)) == t112) = true then (if t112 = true then (if x2 > x1 then (if ((rd_T23 x0 x1).f2) = 53 then (some (decide ((t105.length : Int) < (x0.length : Int)))) else (some false)) else (some false)) else (some (decide ((t105.length : Int) < (x0.length : Int))))) else (some false)))) else (none)) else (none))) else (none)) else (none))
def reelkeeperlaw06_TreeUnder.f (k : Nat) (l0 : List (S23)) (a1 : Int) (a2 : Int) : Option (Bool) := (reelkeeperlaw06_awake.f k).bind fun t101 => ((reelkeeperlaw06_Few.f k l0).bind fun t102 => (if t101 = true then (if t102 = true then ((tree_May.f k l0).bind fun t103 => (if t103 = true then (if a1 < 0 then (reelkeeperlaw06_TreeUnder.j0 k l0 a1 a2 t101 true) else (if a2 < 0 then (reelkeeperlaw06_TreeUnder.j0 k l0 a1 a2 t101 true) else (if a1 ≥ (l0.length : Int) then (reelkeeperlaw06_TreeUnder.j0 k l0 a1 a2 t101 true) else (reelkeeperlaw06_TreeUnder.j0 k l0 a1 a2 t101 (decide (a2 ≥ (l0.length : Int))))))) else (reelkeeperlaw06_TreeUnder.j0 k l0 a1 a2 t101 true))) else (reelkeeperlaw06_TreeUnder.j0 k l0 a1 a2 t101 true)) else (reelkeeperlaw06_TreeUnder.j0 k l0 a1 a2 t101 true)))
theorem reelkeeperlaw06_TreeUnder.mono_l : ∀ k, (∀ y0 y1 y2 y3 y4, LeO (reelkeeperlaw06_TreeUnder.j0 k y0 y1 y2 y3 y4) (reelkeeperlaw06_TreeUnder.j0 (k + 1) y0 y1 y2 y3 y4))
  | 0 => fun _ _ _ _ _ r h => by simp [reelkeeperlaw06_TreeUnder.j0] at h
  | k + 1 => by
    have ih0 := reelkeeperlaw06_TreeUnder.mono_l k
    · intro y0 y1 y2 y3 y4
      unfold reelkeeperlaw06_TreeUnder.j0
      repeat' first
      | (with_reducible exact ih0 _ _ _ _ _)
      | (with_reducible exact reelkeeperlaw06_Few.mono _ _)
      | (with_reducible exact reelkeeperlaw06_awake.mono _)
      | (with_reducible exact tree_May.mono _ _)
      | (with_reducible exact LeO.refl _)
      | (with_reducible exact LeO.none _)
      | (with_reducible refine LeO.ite ?_ ?_)
      | (with_reducible refine LeO.bind ?_ (fun _ => ?_))
      | exact ih0 _ _ _ _ _
      | exact reelkeeperlaw06_Few.mono _ _
      | exact reelkeeperlaw06_awake.mono _
      | exact tree_May.mono _ _
      | exact LeO.none _
      | refine LeO.ite ?_ ?_
      | refine LeO.bind ?_ (fun _ => ?_)
theorem reelkeeperlaw06_TreeUnder.mono : ∀ a0 a1 a2 k, LeO (reelkeeperlaw06_TreeUnder.f k a0 a1 a2) (reelkeeperlaw06_TreeUnder.f (k + 1) a0 a1 a2) := by
  intro a0 a1 a2 k
  have ih0 := reelkeeperlaw06_TreeUnder.mono_l k
  unfold reelkeeperlaw06_TreeUnder.f
  repeat' first
      | (with_reducible exact ih0 _ _ _ _ _)
      | (with_reducible exact reelkeeperlaw06_Few.mono _ _)
      | (with_reducible exact reelkeeperlaw06_awake.mono _)
      | (with_reducible exact tree_May.mono _ _)
      | (with_reducible exact LeO.refl _)
      | (with_reducible exact LeO.none _)
      | (with_reducible refine LeO.ite ?_ ?_)
      | (with_reducible refine LeO.bind ?_ (fun _ => ?_))
      | exact ih0 _ _ _ _ _
      | exact reelkeeperlaw06_Few.mono _ _
      | exact reelkeeperlaw06_awake.mono _
      | exact tree_May.mono _ _
      | exact LeO.none _
      | refine LeO.ite ?_ ?_
      | refine LeO.bind ?_ (fun _ => ?_)
def reelkeeperlaw06_TreeUnder.T7 : Bool × List (List Nat × List Nat) := (true, [([], []), ([], []), ([0, 1], [0, 1]), ([2], [2]), ([3], [3]), ([], []), ([], []), ([5, 6], [5, 6]), ([7], [7]), ([8], [8]), ([4, 9], [4, 9]), ([10, 10, 0, 1, 2, 3, 4, 5, 6, 7, 8, 9, 10], [10])])
def reelkeeperlaw06_TreeUnder.B7 : List Nat := [0, 0, 3, 7, 15, 0, 0, 96, 224, 480, 1023, 2047]
theorem reelkeeperlaw06_TreeUnder.tab7 : rtab .any (opsOf Try.f5 7) = reelkeeperlaw06_TreeUnder.T7 := by kernel_rfl
theorem reelkeeperlaw06_TreeUnder.bits7 : waitsOk reelkeeperlaw06_TreeUnder.T7.2 reelkeeperlaw06_TreeUnder.B7 = true := by kernel_rfl
set_option maxHeartbeats 8000000 in
set_option maxRecDepth 100000 in
theorem reelkeeperlaw06_TreeUnder.calls (k : Nat) (A0 : Option Addr) (c0 : Nat) (l0 : List (S23)) (a1 : Int) (a2 : Int) (r : Bool) (w : World) (hr0 : Kd.C k23 w A0 l0.length l0) (hc0 : l0.length ≤ c0) (h : reelkeeperlaw06_TreeUnder.f k l0 a1 a2 = some r) :
    Calls Try.prog 5 #[.slice A0 l0.length c0, .int .i64 a1, .int .i64 a2] w fun e w' => e = .returned (.bool r) ∧ Below w.heap.size w w' := by
  have HR0 := Aside0.mk hr0
  have HC0 := Aside0.mk hc0
  clear hr0 hc0
  have HB := Aside0.mk (Below.refl w.heap.size w)
  have H : ((reelkeeperlaw06_awake.f k).bind fun t101 => ((reelkeeperlaw06_Few.f k l0).bind fun t102 => (if t101 = true then (if t102 = true then ((tree_May.f k l0).bind fun t103 => (if t103 = true then (if a1 < 0 then (reelkeeperlaw06_TreeUnder.j0 k l0 a1 a2 t101 true) else (if a2 < 0 then (reelkeeperlaw06_TreeUnder.j0 k l0 a1 a2 t101 true) else (if a1 ≥ (l0.length : Int) then (reelkeeperlaw06_TreeUnder.j0 k l0 a1 a2 t101 true) else (reelkeeperlaw06_TreeUnder.j0 k l0 a1 a2 t101 (decide (a2 ≥ (l0.length : Int))))))) else (reelkeeperlaw06_TreeUnder.j0 k l0 a1 a2 t101 true))) else (reelkeeperlaw06_TreeUnder.j0 k l0 a1 a2 t101 true)) else (reelkeeperlaw06_TreeUnder.j0 k l0 a1 a2 t101 true)))) = some r := h
  clear h
  replace H := Option.bind_eq_some_iff.mp H
  obtain ⟨t101, A40, H⟩ := H
  replace H : ((reelkeeperlaw06_Few.f k l0).bind fun t102 => (if t101 = true then (if t102 = true then ((tree_May.f k l0).bind fun t103 => (if t103 = true then (if a1 < 0 then (reelkeeperlaw06_TreeUnder.j0 k l0 a1 a2 t101 true) else (if a2 < 0 then (reelkeeperlaw06_TreeUnder.j0 k l0 a1 a2 t101 true) else (if a1 ≥ (l0.length : Int) then (reelkeeperlaw06_TreeUnder.j0 k l0 a1 a2 t101 true) else (reelkeeperlaw06_TreeUnder.j0 k l0 a1 a2 t101 (decide (a2 ≥ (l0.length : Int))))))) else (reelkeeperlaw06_TreeUnder.j0 k l0 a1 a2 t101 true))) else (reelkeeperlaw06_TreeUnder.j0 k l0 a1 a2 t101 true)) else (reelkeeperlaw06_TreeUnder.j0 k l0 a1 a2 t101 true))) = some r := H
  have A4 := Aside0.mk A40
  clear A40
  replace H := Option.bind_eq_some_iff.mp H
  obtain ⟨t102, A50, H⟩ := H
  replace H : (if t101 = true then (if t102 = true then ((tree_May.f k l0).bind fun t103 => (if t103 = true then (if a1 < 0 then (reelkeeperlaw06_TreeUnder.j0 k l0 a1 a2 t101 true) else (if a2 < 0 then (reelkeeperlaw06_TreeUnder.j0 k l0 a1 a2 t101 true) else (if a1 ≥ (l0.length : Int) then (reelkeeperlaw06_TreeUnder.j0 k l0 a1 a2 t101 true) else (reelkeeperlaw06_TreeUnder.j0 k l0 a1 a2 t101 (decide (a2 ≥ (l0.length : Int))))))) else (reelkeeperlaw06_TreeUnder.j0 k l0 a1 a2 t101 true))) else (reelkeeperlaw06_TreeUnder.j0 k l0 a1 a2 t101 true)) else (reelkeeperlaw06_TreeUnder.j0 k l0 a1 a2 t101 true)) = some r := H
  have A5 := Aside0.mk A50
  clear A50
  have HC6 := Aside0.mk H
  clear H
  go_enter Try.func5, Try.ntmps5
  go_upto_region 3 with (first | ((with_reducible refine gate_callee (f := 15) rfl ?_); refine goesL_ (some 12) rfl rfl Try.func15 (by kernel_rfl) rfl #[] rfl (by (try simp only [List.map_toArray, List.map_cons, List.map_nil]); first | done | rfl | (simp only [List.length_drop, List.length_take]; rfl)) ?_; (with_reducible refine (reelkeeperlaw06_awake.calls k  t101 _ A4.out).mono ?_); rintro e w7 ⟨rfl, hb⟩; refine ⟨_, rfl, ?_⟩; have n0_ := Aside0.mk (below_step (by repeat (first | (with_reducible first | exact HB.out | apply below_alloc | apply pw_below_drewN | apply below_drew1) | exact HB.out)) hb); clear HB; have HB := n0_; clear n0_; (try clear hb); (try clear hb2); (try clear hk); (try clear hi)) | ((with_reducible refine gate_callee (f := 17) rfl ?_); refine goesL_ (some 14) rfl rfl Try.func17 (by kernel_rfl) rfl #[.slice A0 l0.length c0] rfl (by (try simp only [List.map_toArray, List.map_cons, List.map_nil]); first | done | rfl | (simp only [List.length_drop, List.length_take]; rfl)) ?_; (with_reducible refine (reelkeeperlaw06_Few.calls k _ _ l0 t102 _ ?side1 ?side2 A5.out).mono ?_); (case side1 => repeat (first | exact (Kd.C_below HR0.out HB.out) | (with_reducible refine Kd.C_alloc ?_ _) | (with_reducible refine Kd.C_drewN ?_ _) | (with_reducible refine Kd.C_drew ?_))); (case side2 => exact HC0.out); rintro e w8 ⟨rfl, hb⟩; refine ⟨_, rfl, ?_⟩; have n0_ := Aside0.mk (below_step (by repeat (first | (with_reducible first | exact HB.out | apply below_alloc | apply pw_below_drewN | apply below_drew1) | exact HB.out)) hb); clear HB; have HB := n0_; clear n0_; (try clear hb); (try clear hb2); (try clear hk); (try clear hi)))
  (try simp only [Act.put, List.setIfInBounds_toArray, List.set_cons_zero, List.set_cons_succ])
  go_cut [45] (fun v45 wc => ∃ (kq : Nat) (x45_5 : Bool), v45 = .bool x45_5 ∧ Aside0 (reelkeeperlaw06_TreeUnder.j0 kq l0 a1 a2 t101 x45_5 = some r) ∧ Aside0 (kq ≤ k) ∧ Aside0 (Below w.heap.size w wc))
  case first =>
    have H := HC6.out
    clear HC6
    by_cases c9 : t101 = true
    · subst c9
      have H1 : (if t102 = true then ((tree_May.f k l0).bind fun t103 => (if t103 = true then (if a1 < 0 then (reelkeeperlaw06_TreeUnder.j0 k l0 a1 a2 true true) else (if a2 < 0 then (reelkeeperlaw06_TreeUnder.j0 k l0 a1 a2 true true) else (if a1 ≥ (l0.length : Int) then (reelkeeperlaw06_TreeUnder.j0 k l0 a1 a2 true true) else (reelkeeperlaw06_TreeUnder.j0 k l0 a1 a2 true (decide (a2 ≥ (l0.length : Int))))))) else (reelkeeperlaw06_TreeUnder.j0 k l0 a1 a2 true true))) else (reelkeeperlaw06_TreeUnder.j0 k l0 a1 a2 true true)) = some r := by rw [if_pos rfl] at H; exact H
      clear H
      have H := H1
      clear H1
      by_cases c10 : t102 = true
      · subst c10
        have H1 : ((tree_May.f k l0).bind fun t103 => (if t103 = true then (if a1 < 0 then (reelkeeperlaw06_TreeUnder.j0 k l0 a1 a2 true true) else (if a2 < 0 then (reelkeeperlaw06_TreeUnder.j0 k l0 a1 a2 true true) else (if a1 ≥ (l0.length : Int) then (reelkeeperlaw06_TreeUnder.j0 k l0 a1 a2 true true) else (reelkeeperlaw06_TreeUnder.j0 k l0 a1 a2 true (decide (a2 ≥ (l0.length : Int))))))) else (reelkeeperlaw06_TreeUnder.j0 k l0 a1 a2 true true))) = some r := by rw [if_pos rfl] at H; exact H
        clear H
        have H := H1
        clear H1
        replace H := Option.bind_eq_some_iff.mp H
        obtain ⟨t103, A110, H⟩ := H
        replace H : (if t103 = true then (if a1 < 0 then (reelkeeperlaw06_TreeUnder.j0 k l0 a1 a2 true true) else (if a2 < 0 then (reelkeeperlaw06_TreeUnder.j0 k l0 a1 a2 true true) else (if a1 ≥ (l0.length : Int) then (reelkeeperlaw06_TreeUnder.j0 k l0 a1 a2 true true) else (reelkeeperlaw06_TreeUnder.j0 k l0 a1 a2 true (decide (a2 ≥ (l0.length : Int))))))) else (reelkeeperlaw06_TreeUnder.j0 k l0 a1 a2 true true)) = some r := H
        have A11 := Aside0.mk A110
        clear A110
        by_cases c12 : t103 = true
        · subst c12
          have H1 : (if a1 < 0 then (reelkeeperlaw06_TreeUnder.j0 k l0 a1 a2 true true) else (if a2 < 0 then (reelkeeperlaw06_TreeUnder.j0 k l0 a1 a2 true true) else (if a1 ≥ (l0.length : Int) then (reelkeeperlaw06_TreeUnder.j0 k l0 a1 a2 true true) else (reelkeeperlaw06_TreeUnder.j0 k l0 a1 a2 true (decide (a2 ≥ (l0.length : Int))))))) = some r := by rw [if_pos rfl] at H; exact H
          clear H
          have H := H1
          clear H1
          by_cases c13 : a1 < 0
          · rw [if_pos c13] at H
            have c13b0 : decide (a1 < 0) = true := decide_eq_true c13
            clear c13
            (first | rw [c13b0] | (simp only [i64_w, i32_w]; rw [c13b0]) | skip)
            have H' := Aside0.mk H
            clear H
            go_wp2_with (first | (go_at_call 24; (with_reducible refine (tree_May.calls k _ _ l0 true _ ?side1 ?side2 A11.out).mono ?_); (case side1 => repeat (first | exact (Kd.C_below HR0.out HB.out) | (with_reducible refine Kd.C_alloc ?_ _) | (with_reducible refine Kd.C_drewN ?_ _) | (with_reducible refine Kd.C_drew ?_))); (case side2 => exact HC0.out); rintro e w14 ⟨rfl, hb⟩; have n0_ := Aside0.mk (below_step (by repeat (first | (with_reducible first | exact HB.out | apply below_alloc | apply pw_below_drewN | apply below_drew1) | exact HB.out)) hb); clear HB; have HB := n0_; clear n0_; (try clear hb); (try clear hb2); (try clear hk); (try clear hi)))
            go_meet
            case rel => exact ⟨_, (true), (by first | rfl | (simp; done) | (simp [*]; done)), H', ⟨by first | omega | exact Nat.le_refl _⟩, ⟨by repeat (first | (with_reducible first | exact HB.out | apply below_alloc | apply pw_below_drewN | apply below_drew1) | exact HB.out)⟩⟩
          · rw [if_neg c13] at H
            have c13b0 : decide (a1 < 0) = false := decide_eq_false c13
            clear c13
            (first | rw [c13b0] | (simp only [i64_w, i32_w]; rw [c13b0]) | skip)
            by_cases c15 : a2 < 0
            · rw [if_pos c15] at H
              have c15b0 : decide (a2 < 0) = true := decide_eq_true c15
              clear c15
              have H' := Aside0.mk H
              clear H
              go_wp2_with (first | (go_at_call 24; (with_reducible refine (tree_May.calls k _ _ l0 true _ ?side1 ?side2 A11.out).mono ?_); (case side1 => repeat (first | exact (Kd.C_below HR0.out HB.out) | (with_reducible refine Kd.C_alloc ?_ _) | (with_reducible refine Kd.C_drewN ?_ _) | (with_reducible refine Kd.C_drew ?_))); (case side2 => exact HC0.out); rintro e w16 ⟨rfl, hb⟩; have n0_ := Aside0.mk (below_step (by repeat (first | (with_reducible first | exact HB.out | apply below_alloc | apply pw_below_drewN | apply below_drew1) | exact HB.out)) hb); clear HB; have HB := n0_; clear n0_; (try clear hb); (try clear hb2); (try clear hk); (try clear hi)))
              go_meet
              case rel => exact ⟨_, (true), (by first | rfl | (simp; done) | (simp [*]; done)), H', ⟨by first | omega | exact Nat.le_refl _⟩, ⟨by repeat (first | (with_reducible first | exact HB.out | apply below_alloc | apply pw_below_drewN | apply below_drew1) | exact HB.out)⟩⟩
            · rw [if_neg c15] at H
              have c15b0 : decide (a2 < 0) = false := decide_eq_false c15
              clear c15
              by_cases c17 : a1 ≥ (l0.length : Int)
              · rw [if_pos c17] at H
                have c17b0 : decide ((l0.length : Int) ≤ a1) = true := decide_eq_true c17
                clear c17
                have H' := Aside0.mk H
                clear H
                go_wp2_with (first | (go_at_call 24; (with_reducible refine (tree_May.calls k _ _ l0 true _ ?side1 ?side2 A11.out).mono ?_); (case side1 => repeat (first | exact (Kd.C_below HR0.out HB.out) | (with_reducible refine Kd.C_alloc ?_ _) | (with_reducible refine Kd.C_drewN ?_ _) | (with_reducible refine Kd.C_drew ?_))); (case side2 => exact HC0.out); rintro e w18 ⟨rfl, hb⟩; have n0_ := Aside0.mk (below_step (by repeat (first | (with_reducible first | exact HB.out | apply below_alloc | apply pw_below_drewN | apply below_drew1) | exact HB.out)) hb); clear HB; have HB := n0_; clear n0_; (try clear hb); (try clear hb2); (try clear hk); (try clear hi)))
                go_meet
                case rel => exact ⟨_, (true), (by first | rfl | (simp; done) | (simp [*]; done)), H', ⟨by first | omega | exact Nat.le_refl _⟩, ⟨by repeat (first | (with_reducible first | exact HB.out | apply below_alloc | apply pw_below_drewN | apply below_drew1) | exact HB.out)⟩⟩
              · rw [if_neg c17] at H
                have c17b0 : decide ((l0.length : Int) ≤ a1) = false := decide_eq_false c17
                clear c17
                have H' := Aside0.mk H
                clear H
                go_wp2_with (first | (go_at_call 24; (with_reducible refine (tree_May.calls k _ _ l0 true _ ?side1 ?side2 A11.out).mono ?_); (case side1 => repeat (first | exact (Kd.C_below HR0.out HB.out) | (with_reducible refine Kd.C_alloc ?_ _) | (with_reducible refine Kd.C_drewN ?_ _) | (with_reducible refine Kd.C_drew ?_))); (case side2 => exact HC0.out); rintro e w19 ⟨rfl, hb⟩; have n0_ := Aside0.mk (below_step (by repeat (first | (with_reducible first | exact HB.out | apply below_alloc | apply pw_below_drewN | apply below_drew1) | exact HB.out)) hb); clear HB; have HB := n0_; clear n0_; (try clear hb); (try clear hb2); (try clear hk); (try clear hi)))
                go_meet
                case rel => exact ⟨_, (decide (a2 ≥ (l0.length : Int))), (by first | rfl | (simp; done) | (simp [*]; done)), H', ⟨by first | omega | exact Nat.le_refl _⟩, ⟨by repeat (first | (with_reducible first | exact HB.out | apply below_alloc | apply pw_below_drewN | apply below_drew1) | exact HB.out)⟩⟩
        · replace c12 := Bool.eq_false_iff.mpr c12
          subst c12
          have H1 : (reelkeeperlaw06_TreeUnder.j0 k l0 a1 a2 true true) = some r := by rw [if_neg (show ¬ (false = true) by decide)] at H; exact H
          clear H
          have H := H1
          clear H1
          have H' := Aside0.mk H
          clear H
          go_wp2_with (first | (go_at_call 24; (with_reducible refine (tree_May.calls k _ _ l0 false _ ?side1 ?side2 A11.out).mono ?_); (case side1 => repeat (first | exact (Kd.C_below HR0.out HB.out) | (with_reducible refine Kd.C_alloc ?_ _) | (with_reducible refine Kd.C_drewN ?_ _) | (with_reducible refine Kd.C_drew ?_))); (case side2 => exact HC0.out); rintro e w20 ⟨rfl, hb⟩; have n0_ := Aside0.mk (below_step (by repeat (first | (with_reducible first | exact HB.out | apply below_alloc | apply pw_below_drewN | apply below_drew1) | exact HB.out)) hb); clear HB; have HB := n0_; clear n0_; (try clear hb); (try clear hb2); (try clear hk); (try clear hi)))
          go_meet
          case rel => exact ⟨_, (true), (by first | rfl | (simp; done) | (simp [*]; done)), H', ⟨by first | omega | exact Nat.le_refl _⟩, ⟨by repeat (first | (with_reducible first | exact HB.out | apply below_alloc | apply pw_below_drewN | apply below_drew1) | exact HB.out)⟩⟩
      · replace c10 := Bool.eq_false_iff.mpr c10
        subst c10
        have H1 : (reelkeeperlaw06_TreeUnder.j0 k l0 a1 a2 true true) = some r := by rw [if_neg (show ¬ (false = true) by decide)] at H; exact H
        clear H
        have H := H1
        clear H1
        have H' := Aside0.mk H
        clear H
        go_wp2
        go_meet
        case rel => exact ⟨_, (true), (by first | rfl | (simp; done) | (simp [*]; done)), H', ⟨by first | omega | exact Nat.le_refl _⟩, ⟨by repeat (first | (with_reducible first | exact HB.out | apply below_alloc | apply pw_below_drewN | apply below_drew1) | exact HB.out)⟩⟩
    · replace c9 := Bool.eq_false_iff.mpr c9
      subst c9
      have H1 : (reelkeeperlaw06_TreeUnder.j0 k l0 a1 a2 false true) = some r := by rw [if_neg (show ¬ (false = true) by decide)] at H; exact H
      clear H
      have H := H1
      clear H1
      have H' := Aside0.mk H
      clear H
      go_wp2
      go_meet
      case rel => exact ⟨_, (true), (by first | rfl | (simp; done) | (simp [*]; done)), H', ⟨by first | omega | exact Nat.le_refl _⟩, ⟨by repeat (first | (with_reducible first | exact HB.out | apply below_alloc | apply pw_below_drewN | apply below_drew1) | exact HB.out)⟩⟩
  case rest =>
    clear HC6
    try clear c1
    try clear p2
    try clear c5
    try clear c9
    try clear c10
    try clear c12
    try clear c13
    try clear c13b0
    try clear c15
    try clear c15b0
    try clear c17
    try clear c17b0
    obtain ⟨kq, x45_5, rfl, HA, HJ5, HB⟩ := hcut
    cases kq with
    | zero => exact absurd HA.out (by simp [reelkeeperlaw06_TreeUnder.j0])
    | succ kj5 =>
      have H := HA.out
      clear HA
      simp only [reelkeeperlaw06_TreeUnder.j0] at H
      by_cases c21 : x45_5 = true
      · subst c21
        have H1 : (some t101) = some r := by rw [if_pos rfl] at H; exact H
        clear H
        have H := H1
        clear H1
        obtain rfl := Option.some.inj H
        go_wp2
        go_ret
        exact ⟨by first | rfl | (simp [errW_none, errW_some] <;> rfl) | (simp [*, errW_none, errW_some] <;> rfl), by repeat (first | (with_reducible first | exact HB.out | apply below_alloc | apply pw_below_drewN | apply below_drew1) | exact HB.out)⟩
      · replace c21 := Bool.eq_false_iff.mpr c21
        subst c21
        have H1 : (if 0 ≤ a1 then (if a1 < (l0.length : Int) then ((tree_Under.f l0 ((rd_T23 l0 a1).f0)).bind fun t105 => (if 0 ≤ a2 then (if a2 < (l0.length : Int) then ((tree_Find.f t105 ((rd_T23 l0 a2).f0)).bind fun t109 => ((path_Below.f ((rd_T23 l0 a2).f0) ((rd_T23 l0 a1).f0)).bind fun t112 => (if ((decide (t109 ≥ 0)) == t112) = true then (if t112 = true then (if a2 > a1 then (if ((rd_T23 l0 a1).f2) = 53 then (some (decide ((t105.length : Int) < (l0.length : Int)))) else (some false)) else (some false)) else (some (decide ((t105.length : Int) < (l0.length : Int))))) else (some false)))) else (none)) else (none))) else (none)) else (none)) = some r := by rw [if_neg (show ¬ (false = true) by decide)] at H; exact H
        clear H
        have H := H1
        clear H1
        by_cases c22 : 0 ≤ a1
        · rw [if_pos c22] at H
          have c22b0 : decide (0 ≤ a1) = true := decide_eq_true c22
          clear c22
          by_cases c23 : a1 < (l0.length : Int)
          · rw [if_pos c23] at H
            have c23b0 : decide (a1 < (l0.length : Int)) = true := decide_eq_true c23
            clear c23
            replace H := Option.bind_eq_some_iff.mp H
            obtain ⟨t105, A240, H⟩ := H
            replace H : (if 0 ≤ a2 then (if a2 < (l0.length : Int) then ((tree_Find.f t105 ((rd_T23 l0 a2).f0)).bind fun t109 => ((path_Below.f ((rd_T23 l0 a2).f0) ((rd_T23 l0 a1).f0)).bind fun t112 => (if ((decide (t109 ≥ 0)) == t112) = true then (if t112 = true then (if a2 > a1 then (if ((rd_T23 l0 a1).f2) = 53 then (some (decide ((t105.length : Int) < (l0.length : Int)))) else (some false)) else (some false)) else (some (decide ((t105.length : Int) < (l0.length : Int))))) else (some false)))) else (none)) else (none)) = some r := H
            have A24 := Aside0.mk A240
            clear A240
            by_cases c25 : 0 ≤ a2
            · rw [if_pos c25] at H
              have c25b0 : decide (0 ≤ a2) = true := decide_eq_true c25
              clear c25
              by_cases c26 : a2 < (l0.length : Int)
              · rw [if_pos c26] at H
                have c26b0 : decide (a2 < (l0.length : Int)) = true := decide_eq_true c26
                clear c26
                replace H := Option.bind_eq_some_iff.mp H
                obtain ⟨t109, A270, H⟩ := H
                replace H : ((path_Below.f ((rd_T23 l0 a2).f0) ((rd_T23 l0 a1).f0)).bind fun t112 => (if ((decide (t109 ≥ 0)) == t112) = true then (if t112 = true then (if a2 > a1 then (if ((rd_T23 l0 a1).f2) = 53 then (some (decide ((t105.length : Int) < (l0.length : Int)))) else (some false)) else (some false)) else (some (decide ((t105.length : Int) < (l0.length : Int))))) else (some false))) = some r := H
                have A27 := Aside0.mk A270
                clear A270
                replace H := Option.bind_eq_some_iff.mp H
                obtain ⟨t112, A280, H⟩ := H
                replace H : (if ((decide (t109 ≥ 0)) == t112) = true then (if t112 = true then (if a2 > a1 then (if ((rd_T23 l0 a1).f2) = 53 then (some (decide ((t105.length : Int) < (l0.length : Int)))) else (some false)) else (some false)) else (some (decide ((t105.length : Int) < (l0.length : Int))))) else (some false)) = some r := H
                have A28 := Aside0.mk A280
                clear A280
                by_cases c29 : ((decide (t109 ≥ 0)) == t112) = true
                · rw [if_pos c29] at H
                  have c29b0 : ((decide (t109 ≥ 0)) == t112) = true := c29
                  (try (have c29b1 : decide ((decide (t109 ≥ 0)) = t112) = true := by simpa using c29))
                  (try (have c29b2 : ((decide (t109 ≥ 0)) == t112) = true := by simpa using c29))
                  clear c29
                  by_cases c30 : t112 = true
                  · subst c30
                    have H1 : (if a2 > a1 then (if ((rd_T23 l0 a1).f2) = 53 then (some (decide ((t105.length : Int) < (l0.length : Int)))) else (some false)) else (some false)) = some r := by rw [if_pos rfl] at H; exact H
                    clear H
                    have H := H1
                    clear H1
                    by_cases c31 : a2 > a1
                    · rw [if_pos c31] at H
                      have c31b0 : decide (a1 < a2) = true := decide_eq_true c31
                      clear c31
                      by_cases c32 : ((rd_T23 l0 a1).f2) = 53
                      · rw [if_pos c32] at H
                        have c32b0 : (((rd_T23 l0 a1).f2) == 53) = true := beq_iff_eq.mpr c32
                        have c32b1 : (((rd_T23 l0 a1).f2) != 53) = false := bne_eq_false_iff_eq.mpr c32
                        clear c32
                        obtain rfl := Option.some.inj H
                        have p104 : 0 ≤ (a1 : Int) := of_decide_eq_true (by first | (with_reducible assumption) | assumption)
                        have q104 : a1 < (l0.length : Int) := of_decide_eq_true (by first | (with_reducible assumption) | assumption)
                        obtain ⟨ad104, e104, hx104_0, hx104_1, hx104_2, hx104_3, hx104_4, hx104_5, hx104_6, hx104_7⟩ := at_T23 HR0.out a1 p104 q104
                        cases e104
                        replace hx104_0 := (HB.out.cell (World.block_lt_of_cell? w _ hx104_0)).trans hx104_0
                        replace hx104_1 := (HB.out.cell (World.block_lt_of_cell? w _ hx104_1)).trans hx104_1
                        replace hx104_2 := (HB.out.cell (World.block_lt_of_cell? w _ hx104_2)).trans hx104_2
                        replace hx104_3 := (HB.out.cell (World.block_lt_of_cell? w _ hx104_3)).trans hx104_3
                        replace hx104_4 := (HB.out.cell (World.block_lt_of_cell? w _ hx104_4)).trans hx104_4
                        replace hx104_5 := (HB.out.cell (World.block_lt_of_cell? w _ hx104_5)).trans hx104_5
                        replace hx104_6 := (HB.out.cell (World.block_lt_of_cell? w _ hx104_6)).trans hx104_6
                        replace hx104_7 := (HB.out.cell (World.block_lt_of_cell? w _ hx104_7)).trans hx104_7
                        replace p104 := eq_true p104
                        replace q104 := eq_true q104
                        try go_wp2_with (first | ((with_reducible refine gate_callee (f := 21) rfl ?_); refine goesL_ (some 53) rfl rfl Try.func21 (by kernel_rfl) rfl #[.slice (some ad104) l0.length c0, .string ((rd_T23 l0 a1).f0)] rfl (by (try simp only [List.map_toArray, List.map_cons, List.map_nil]); first | done | rfl | (simp only [List.length_drop, List.length_take]; rfl)) ?_; (with_reducible refine (tree_Under.calls _ _ l0 ((rd_T23 l0 a1).f0) t105 _ ?side1 ?side2 A24.out).mono ?_); (case side1 => repeat (first | exact (Kd.C_below HR0.out HB.out) | (with_reducible refine Kd.C_alloc ?_ _) | (with_reducible refine Kd.C_drewN ?_ _) | (with_reducible refine Kd.C_drew ?_))); (case side2 => exact HC0.out); rintro e w33 ⟨v106, rfl, ho0, hb⟩; refine ⟨_, rfl, ?_⟩; have n0_ := Aside0.mk (Kd.R_lower ho0 (below_size (by repeat (first | (with_reducible first | exact HB.out | apply below_alloc | apply pw_below_drewN | apply below_drew1) | exact HB.out)))); have n1_ := Aside0.mk (below_step (by repeat (first | (with_reducible first | exact HB.out | apply below_alloc | apply pw_below_drewN | apply below_drew1) | exact HB.out)) hb); clear HB; have HO107 := n0_; have HB := n1_; clear n0_ n1_; (try clear hb); (try clear hb2); (try clear hk); (try clear hi); (try clear ho0); have p108 : 0 ≤ (a2 : Int) := of_decide_eq_true (by first | (with_reducible assumption) | assumption); have q108 : a2 < (l0.length : Int) := of_decide_eq_true (by first | (with_reducible assumption) | assumption); obtain ⟨ad108, e108, hx108_0, hx108_1, hx108_2, hx108_3, hx108_4, hx108_5, hx108_6, hx108_7⟩ := at_T23 HR0.out a2 p108 q108; obtain rfl : ad104 = ad108 := (by injection e108); replace hx108_0 := (HB.out.cell (World.block_lt_of_cell? w _ hx108_0)).trans hx108_0; replace hx108_1 := (HB.out.cell (World.block_lt_of_cell? w _ hx108_1)).trans hx108_1; replace hx108_2 := (HB.out.cell (World.block_lt_of_cell? w _ hx108_2)).trans hx108_2; replace hx108_3 := (HB.out.cell (World.block_lt_of_cell? w _ hx108_3)).trans hx108_3; replace hx108_4 := (HB.out.cell (World.block_lt_of_cell? w _ hx108_4)).trans hx108_4; replace hx108_5 := (HB.out.cell (World.block_lt_of_cell? w _ hx108_5)).trans hx108_5; replace hx108_6 := (HB.out.cell (World.block_lt_of_cell? w _ hx108_6)).trans hx108_6; replace hx108_7 := (HB.out.cell (World.block_lt_of_cell? w _ hx108_7)).trans hx108_7; replace p108 := eq_true p108; replace q108 := eq_true q108; obtain ⟨Ao34, co34, eo34⟩ := Kd.R_slice HO107.out; subst eo34) | ((with_reducible refine gate_callee (f := 26) rfl ?_); refine goesL_ (some 60) rfl rfl Try.func26 (by kernel_rfl) rfl #[.slice Ao34 t105.length co34, .string ((rd_T23 l0 a2).f0)] rfl (by (try simp only [List.map_toArray, List.map_cons, List.map_nil]); first | done | rfl | (simp only [List.length_drop, List.length_take]; rfl)) ?_; (with_reducible refine (tree_Find.calls _ _ t105 ((rd_T23 l0 a2).f0) t109 _ ?side1 ?side2 A27.out).mono ?_); (case side1 => repeat (first | exact (Kd.R_reads' HO107.out).2.2 | (with_reducible refine Kd.C_alloc ?_ _) | (with_reducible refine Kd.C_drewN ?_ _) | (with_reducible refine Kd.C_drew ?_))); (case side2 => exact (Kd.R_reads' HO107.out).2.1); rintro e w35 ⟨rfl, hb⟩; refine ⟨_, rfl, ?_⟩; have n0_ := Aside0.mk (Kd.R_below (by (with_reducible repeat (first | apply Kd.R_alloc | apply Kd.R_drewN | apply Kd.R_drew)); exact HO107.out) hb); have n1_ := Aside0.mk (below_step (by repeat (first | (with_reducible first | exact HB.out | apply below_alloc | apply pw_below_drewN | apply below_drew1) | exact HB.out)) hb); clear HO107; clear HB; have HO107 := n0_; have HB := n1_; clear n0_ n1_; (try clear hb); (try clear hb2); (try clear hk); (try clear hi)))
                        have n0_ := Aside0.mk (Kd.R_drew HO107.out)
                        have n1_ := Aside0.mk (below_drew1 HB.out)
                        clear HO107
                        clear HB
                        have HO107 := n0_
                        have HB := n1_
                        clear n0_ n1_
                        have p110 : 0 ≤ (a2 : Int) := of_decide_eq_true (by first | (with_reducible assumption) | assumption)
                        have q110 : a2 < (l0.length : Int) := of_decide_eq_true (by first | (with_reducible assumption) | assumption)
                        obtain ⟨ad110, e110, hx110_0, hx110_1, hx110_2, hx110_3, hx110_4, hx110_5, hx110_6, hx110_7⟩ := at_T23 HR0.out a2 p110 q110
                        have hw110_7 := hx110_7
                        have hw110_6 := hx110_6
                        have hw110_5 := hx110_5
                        have hw110_4 := hx110_4
                        have hw110_3 := hx110_3
                        have hw110_2 := hx110_2
                        have hw110_1 := hx110_1
                        have hw110_0 := hx110_0
                        obtain rfl : ad104 = ad110 := (by injection e110)
                        replace hx110_0 := (HB.out.cell (World.block_lt_of_cell? w _ hx110_0)).trans hx110_0
                        replace hx110_1 := (HB.out.cell (World.block_lt_of_cell? w _ hx110_1)).trans hx110_1
                        replace hx110_2 := (HB.out.cell (World.block_lt_of_cell? w _ hx110_2)).trans hx110_2
                        replace hx110_3 := (HB.out.cell (World.block_lt_of_cell? w _ hx110_3)).trans hx110_3
                        replace hx110_4 := (HB.out.cell (World.block_lt_of_cell? w _ hx110_4)).trans hx110_4
                        replace hx110_5 := (HB.out.cell (World.block_lt_of_cell? w _ hx110_5)).trans hx110_5
                        replace hx110_6 := (HB.out.cell (World.block_lt_of_cell? w _ hx110_6)).trans hx110_6
                        replace hx110_7 := (HB.out.cell (World.block_lt_of_cell? w _ hx110_7)).trans hx110_7
                        replace p110 := eq_true p110
                        replace q110 := eq_true q110
                        have p111 : 0 ≤ (a1 : Int) := of_decide_eq_true (by first | (with_reducible assumption) | assumption)
                        have q111 : a1 < (l0.length : Int) := of_decide_eq_true (by first | (with_reducible assumption) | assumption)
                        obtain ⟨ad111, e111, hx111_0, hx111_1, hx111_2, hx111_3, hx111_4, hx111_5, hx111_6, hx111_7⟩ := at_T23 HR0.out a1 p111 q111
                        have hw111_7 := hx111_7
                        have hw111_6 := hx111_6
                        have hw111_5 := hx111_5
                        have hw111_4 := hx111_4
                        have hw111_3 := hx111_3
                        have hw111_2 := hx111_2
                        have hw111_1 := hx111_1
                        have hw111_0 := hx111_0
                        obtain rfl : ad104 = ad111 := (by injection e111)
                        replace hx111_0 := (HB.out.cell (World.block_lt_of_cell? w _ hx111_0)).trans hx111_0
                        replace hx111_1 := (HB.out.cell (World.block_lt_of_cell? w _ hx111_1)).trans hx111_1
                        replace hx111_2 := (HB.out.cell (World.block_lt_of_cell? w _ hx111_2)).trans hx111_2
                        replace hx111_3 := (HB.out.cell (World.block_lt_of_cell? w _ hx111_3)).trans hx111_3
                        replace hx111_4 := (HB.out.cell (World.block_lt_of_cell? w _ hx111_4)).trans hx111_4
                        replace hx111_5 := (HB.out.cell (World.block_lt_of_cell? w _ hx111_5)).trans hx111_5
                        replace hx111_6 := (HB.out.cell (World.block_lt_of_cell? w _ hx111_6)).trans hx111_6
                        replace hx111_7 := (HB.out.cell (World.block_lt_of_cell? w _ hx111_7)).trans hx111_7
                        replace p111 := eq_true p111
                        replace q111 := eq_true q111
                        refine start_ (n := 12) (S := fun w' => w'.cell? (ad104.add ((a2).toNat * 8)) = some (.string ((rd_T23 l0 a2).f0)) ∧ w'.cell? ⟨(ad104.add ((a2).toNat * 8)).block, (ad104.add ((a2).toNat * 8)).off + 1, none⟩ = some (.string ((rd_T23 l0 a2).f1)) ∧ w'.cell? ⟨(ad104.add ((a2).toNat * 8)).block, (ad104.add ((a2).toNat * 8)).off + 2, none⟩ = some (.int .u8 ((rd_T23 l0 a2).f2)) ∧ w'.cell? ⟨(ad104.add ((a2).toNat * 8)).block, (ad104.add ((a2).toNat * 8)).off + 3, none⟩ = some (.int .i64 ((rd_T23 l0 a2).f3)) ∧ w'.cell? ⟨(ad104.add ((a2).toNat * 8)).block, (ad104.add ((a2).toNat * 8)).off + 4, none⟩ = some (.int .i64 ((rd_T23 l0 a2).f4)) ∧ w'.cell? ⟨(ad104.add ((a2).toNat * 8)).block, (ad104.add ((a2).toNat * 8)).off + 5, none⟩ = some (.int .i64 ((rd_T23 l0 a2).f5)) ∧ w'.cell? ⟨(ad104.add ((a2).toNat * 8)).block, (ad104.add ((a2).toNat * 8)).off + 6, none⟩ = some (.int .i64 ((rd_T23 l0 a2).f6)) ∧ w'.cell? ⟨(ad104.add ((a2).toNat * 8)).block, (ad104.add ((a2).toNat * 8)).off + 7, none⟩ = some (.string ((rd_T23 l0 a2).f7)) ∧ w'.cell? (ad104.add ((a1).toNat * 8)) = some (.string ((rd_T23 l0 a1).f0)) ∧ w'.cell? ⟨(ad104.add ((a1).toNat * 8)).block, (ad104.add ((a1).toNat * 8)).off + 1, none⟩ = some (.string ((rd_T23 l0 a1).f1)) ∧ w'.cell? ⟨(ad104.add ((a1).toNat * 8)).block, (ad104.add ((a1).toNat * 8)).off + 2, none⟩ = some (.int .u8 ((rd_T23 l0 a1).f2)) ∧ w'.cell? ⟨(ad104.add ((a1).toNat * 8)).block, (ad104.add ((a1).toNat * 8)).off + 3, none⟩ = some (.int .i64 ((rd_T23 l0 a1).f3)) ∧ w'.cell? ⟨(ad104.add ((a1).toNat * 8)).block, (ad104.add ((a1).toNat * 8)).off + 4, none⟩ = some (.int .i64 ((rd_T23 l0 a1).f4)) ∧ w'.cell? ⟨(ad104.add ((a1).toNat * 8)).block, (ad104.add ((a1).toNat * 8)).off + 5, none⟩ = some (.int .i64 ((rd_T23 l0 a1).f5)) ∧ w'.cell? ⟨(ad104.add ((a1).toNat * 8)).block, (ad104.add ((a1).toNat * 8)).off + 6, none⟩ = some (.int .i64 ((rd_T23 l0 a1).f6)) ∧ w'.cell? ⟨(ad104.add ((a1).toNat * 8)).block, (ad104.add ((a1).toNat * 8)).off + 7, none⟩ = some (.string ((rd_T23 l0 a1).f7))) (ds := []) #[false, false, false, false, false, false, false, false, false, false, false, false] (by kernel_rfl) rfl rfl ⟨((HB.out.cell (World.block_lt_of_cell? w _ hw110_0)).trans hw110_0), ((HB.out.cell (World.block_lt_of_cell? w _ hw110_1)).trans hw110_1), ((HB.out.cell (World.block_lt_of_cell? w _ hw110_2)).trans hw110_2), ((HB.out.cell (World.block_lt_of_cell? w _ hw110_3)).trans hw110_3), ((HB.out.cell (World.block_lt_of_cell? w _ hw110_4)).trans hw110_4), ((HB.out.cell (World.block_lt_of_cell? w _ hw110_5)).trans hw110_5), ((HB.out.cell (World.block_lt_of_cell? w _ hw110_6)).trans hw110_6), ((HB.out.cell (World.block_lt_of_cell? w _ hw110_7)).trans hw110_7), ((HB.out.cell (World.block_lt_of_cell? w _ hw111_0)).trans hw111_0), ((HB.out.cell (World.block_lt_of_cell? w _ hw111_1)).trans hw111_1), ((HB.out.cell (World.block_lt_of_cell? w _ hw111_2)).trans hw111_2), ((HB.out.cell (World.block_lt_of_cell? w _ hw111_3)).trans hw111_3), ((HB.out.cell (World.block_lt_of_cell? w _ hw111_4)).trans hw111_4), ((HB.out.cell (World.block_lt_of_cell? w _ hw111_5)).trans hw111_5), ((HB.out.cell (World.block_lt_of_cell? w _ hw111_6)).trans hw111_6), ((HB.out.cell (World.block_lt_of_cell? w _ hw111_7)).trans hw111_7)⟩ (fun hHeld => ?_); refine with_tabW reelkeeperlaw06_TreeUnder.tab7 reelkeeperlaw06_TreeUnder.bits7 (fun HT_ HW_ => ?_)
                        generalize w35.drew = w36 at HO107 HB hx110_0 hx110_1 hx110_2 hx110_3 hx110_4 hx110_5 hx110_6 hx110_7 hx111_0 hx111_1 hx111_2 hx111_3 hx111_4 hx111_5 hx111_6 hx111_7 hHeld ⊢
                        refine pure_ (i := 0) (N := some 62) (v := ?_) (a' := ?_) #[true, false, false, false, false, false, false, false, false, false, false, false] rfl rfl (any_of HT_.out (by kernel_rfl)) (fun _ _ _ h => h) (Or.inl ⟨by rfl, ?_⟩) ?_ ?_
                        rotate_left
                        · intro w'
                          go_simp
                          with_reducible rfl
                        rotate_left
                        · simp only [Act.put, List.setIfInBounds_toArray, List.set_cons_zero, List.set_cons_succ, i64_w, i32_w]
                          rfl
                        refine pure_ (i := 1) (N := some 63) (v := ?_) (a' := ?_) #[true, true, false, false, false, false, false, false, false, false, false, false] rfl rfl (any_of HT_.out (by kernel_rfl)) (fun _ _ _ h => h) (Or.inl ⟨by rfl, ?_⟩) ?_ ?_
                        rotate_left
                        · intro w'
                          go_simp
                          with_reducible rfl
                        rotate_left
                        · simp only [Act.put, List.setIfInBounds_toArray, List.set_cons_zero, List.set_cons_succ, i64_w, i32_w]
                          rfl
                        refine pure_ (i := 2) (N := some 64) (v := ?_) (a' := ?_) #[true, true, true, false, false, false, false, false, false, false, false, false] rfl rfl (any_of HT_.out (by kernel_rfl)) (fun _ _ _ h => h) (Or.inl ⟨by rfl, ?_⟩) ?_ ?_
                        rotate_left
                        · intro w'
                          go_simp
                          with_reducible rfl
                        rotate_left
                        · simp only [Act.put, List.setIfInBounds_toArray, List.set_cons_zero, List.set_cons_succ, i64_w, i32_w]
                          rfl
                        refine pure_ (i := 3) (N := some 65) (v := ?_) (a' := ?_) #[true, true, true, true, false, false, false, false, false, false, false, false] rfl rfl (any_of HT_.out (by kernel_rfl)) (fun _ _ _ h => h) (Or.inl ⟨by rfl, ?_⟩) ?_ ?_
                        rotate_left
                        · intro w'
                          go_simp
                          with_reducible rfl
                        rotate_left
                        · simp only [Act.put, List.setIfInBounds_toArray, List.set_cons_zero, List.set_cons_succ, i64_w, i32_w]
                          rfl
                        refine pure_ (i := 5) (N := some 67) (v := ?_) (a' := ?_) #[true, true, true, true, false, true, false, false, false, false, false, false] rfl rfl (any_of HT_.out (by kernel_rfl)) (fun _ _ _ h => h) (Or.inl ⟨by rfl, ?_⟩) ?_ ?_
                        rotate_left
                        · intro w'
                          go_simp
                          with_reducible rfl
                        rotate_left
                        · simp only [Act.put, List.setIfInBounds_toArray, List.set_cons_zero, List.set_cons_succ, i64_w, i32_w]
                          rfl
                        refine pure_ (i := 6) (N := some 68) (v := ?_) (a' := ?_) #[true, true, true, true, false, true, true, false, false, false, false, false] rfl rfl (any_of HT_.out (by kernel_rfl)) (fun _ _ _ h => h) (Or.inl ⟨by rfl, ?_⟩) ?_ ?_
                        rotate_left
                        · intro w'
                          go_simp
                          with_reducible rfl
                        rotate_left
                        · simp only [Act.put, List.setIfInBounds_toArray, List.set_cons_zero, List.set_cons_succ, i64_w, i32_w]
                          rfl
                        refine pure_ (i := 7) (N := some 69) (v := ?_) (a' := ?_) #[true, true, true, true, false, true, true, true, false, false, false, false] rfl rfl (any_of HT_.out (by kernel_rfl)) (fun _ _ _ h => h) (Or.inl ⟨by rfl, ?_⟩) ?_ ?_
                        rotate_left
                        · intro w'
                          go_simp
                          with_reducible rfl
                        rotate_left
                        · simp only [Act.put, List.setIfInBounds_toArray, List.set_cons_zero, List.set_cons_succ, i64_w, i32_w]
                          rfl
                        refine pure_ (i := 8) (N := some 70) (v := ?_) (a' := ?_) #[true, true, true, true, false, true, true, true, true, false, false, false] rfl rfl (any_of HT_.out (by kernel_rfl)) (fun _ _ _ h => h) (Or.inl ⟨by rfl, ?_⟩) ?_ ?_
                        rotate_left
                        · intro w'
                          go_simp
                          with_reducible rfl
                        rotate_left
                        · simp only [Act.put, List.setIfInBounds_toArray, List.set_cons_zero, List.set_cons_succ, i64_w, i32_w]
                          rfl
                        refine take_ (i := 4) (N := some 66) (v := ?_) (a' := ?_) #[true, true, true, true, true, true, true, true, true, false, false, false] rfl rfl (take_ofW HT_.out HW_.out (by kernel_rfl)) (fun _ _ _ h => h) (Or.inl ⟨by rfl, ?_⟩) hHeld ?_ ?_
                        rotate_left
                        · rintro w' ⟨s0, s1, s2, s3, s4, s5, s6, s7, s8, s9, s10, s11, s12, s13, s14, s15⟩
                          go_simp
                          with_reducible rfl
                        rotate_left
                        · simp only [Act.put, List.setIfInBounds_toArray, List.set_cons_zero, List.set_cons_succ, i64_w, i32_w]
                          rfl
                        refine take_ (i := 9) (N := some 71) (v := ?_) (a' := ?_) #[true, true, true, true, true, true, true, true, true, true, false, false] rfl rfl (take_ofW HT_.out HW_.out (by kernel_rfl)) (fun _ _ _ h => h) (Or.inl ⟨by rfl, ?_⟩) hHeld ?_ ?_
                        rotate_left
                        · rintro w' ⟨s0, s1, s2, s3, s4, s5, s6, s7, s8, s9, s10, s11, s12, s13, s14, s15⟩
                          go_simp
                          with_reducible rfl
                        rotate_left
                        · simp only [Act.put, List.setIfInBounds_toArray, List.set_cons_zero, List.set_cons_succ, i64_w, i32_w]
                          rfl
                        refine one_ (i := 10) (N := some 72) #[true, true, true, true, true, true, true, true, true, true, true, false] rfl rfl (one_of HT_.out (by kernel_rfl)) (by decide) (fun K hK => ?_)
                        refine goes_ Try.func28 (by kernel_rfl) rfl #[.string ((rd_T23 l0 a2).f0), .string ((rd_T23 l0 a1).f0)] (by rfl) rfl rfl (by (try simp only [List.map_toArray, List.map_cons, List.map_nil]); first | done | rfl | (simp only [List.length_drop, List.length_take]; rfl)) ?_
                        with_reducible refine (path_Below.calls ((rd_T23 l0 a2).f0) ((rd_T23 l0 a1).f0) true _ A28.out).mono ?_
                        rintro e w37 ⟨rfl, hb⟩
                        refine ⟨_, rfl, ?_⟩
                        have n0_ := Aside0.mk (Kd.R_below (by (with_reducible repeat (first | apply Kd.R_alloc | apply Kd.R_drewN | apply Kd.R_drew)); exact HO107.out) hb)
                        have n1_ := Aside0.mk (below_step (by repeat (first | (with_reducible first | exact HB.out | apply below_alloc | apply pw_below_drewN | apply below_drew1) | exact HB.out)) hb)
                        clear HO107
                        clear HB
                        have HO107 := n0_
                        have HB := n1_
                        clear n0_ n1_
                        (try clear hb)
                        (try clear hb2)
                        (try clear hk)
                        (try clear hi)
                        refine hK.out _ _ ⟨((HB.out.cell (World.block_lt_of_cell? w _ hw110_0)).trans hw110_0), ((HB.out.cell (World.block_lt_of_cell? w _ hw110_1)).trans hw110_1), ((HB.out.cell (World.block_lt_of_cell? w _ hw110_2)).trans hw110_2), ((HB.out.cell (World.block_lt_of_cell? w _ hw110_3)).trans hw110_3), ((HB.out.cell (World.block_lt_of_cell? w _ hw110_4)).trans hw110_4), ((HB.out.cell (World.block_lt_of_cell? w _ hw110_5)).trans hw110_5), ((HB.out.cell (World.block_lt_of_cell? w _ hw110_6)).trans hw110_6), ((HB.out.cell (World.block_lt_of_cell? w _ hw110_7)).trans hw110_7), ((HB.out.cell (World.block_lt_of_cell? w _ hw111_0)).trans hw111_0), ((HB.out.cell (World.block_lt_of_cell? w _ hw111_1)).trans hw111_1), ((HB.out.cell (World.block_lt_of_cell? w _ hw111_2)).trans hw111_2), ((HB.out.cell (World.block_lt_of_cell? w _ hw111_3)).trans hw111_3), ((HB.out.cell (World.block_lt_of_cell? w _ hw111_4)).trans hw111_4), ((HB.out.cell (World.block_lt_of_cell? w _ hw111_5)).trans hw111_5), ((HB.out.cell (World.block_lt_of_cell? w _ hw111_6)).trans hw111_6), ((HB.out.cell (World.block_lt_of_cell? w _ hw111_7)).trans hw111_7)⟩ (fun hHeld => ?_)
                        clear hK K
                        refine norm_ (a' := ?_) ?_ ?_
                        rotate_left
                        · show Act.put _ (some 72) _ = _
                          simp only [Act.put, List.setIfInBounds_toArray, List.set_cons_zero, List.set_cons_succ, i64_w, i32_w]
                          rfl
                        refine pure_ (i := 11) (N := some 11) (v := ?_) (a' := ?_) #[true, true, true, true, true, true, true, true, true, true, true, true] rfl rfl (any_of HT_.out (by kernel_rfl)) (fun _ _ _ h => h) (Or.inl ⟨by rfl, ?_⟩) ?_ ?_
                        rotate_left
                        · intro w'
                          go_simp
                          with_reducible rfl
                        rotate_left
                        · simp only [Act.put, List.setIfInBounds_toArray, List.set_cons_zero, List.set_cons_succ, i64_w, i32_w]
                          rfl
                        refine done_ (done_of HT_.out (by kernel_rfl)) ?_
                        have p113 : 0 ≤ (a1 : Int) := of_decide_eq_true (by first | (with_reducible assumption) | assumption)
                        have q113 : a1 < (l0.length : Int) := of_decide_eq_true (by first | (with_reducible assumption) | assumption)
                        obtain ⟨ad113, e113, hx113_0, hx113_1, hx113_2, hx113_3, hx113_4, hx113_5, hx113_6, hx113_7⟩ := at_T23 HR0.out a1 p113 q113
                        obtain rfl : ad104 = ad113 := (by injection e113)
                        replace hx113_0 := (HB.out.cell (World.block_lt_of_cell? w _ hx113_0)).trans hx113_0
                        replace hx113_1 := (HB.out.cell (World.block_lt_of_cell? w _ hx113_1)).trans hx113_1
                        replace hx113_2 := (HB.out.cell (World.block_lt_of_cell? w _ hx113_2)).trans hx113_2
                        replace hx113_3 := (HB.out.cell (World.block_lt_of_cell? w _ hx113_3)).trans hx113_3
                        replace hx113_4 := (HB.out.cell (World.block_lt_of_cell? w _ hx113_4)).trans hx113_4
                        replace hx113_5 := (HB.out.cell (World.block_lt_of_cell? w _ hx113_5)).trans hx113_5
                        replace hx113_6 := (HB.out.cell (World.block_lt_of_cell? w _ hx113_6)).trans hx113_6
                        replace hx113_7 := (HB.out.cell (World.block_lt_of_cell? w _ hx113_7)).trans hx113_7
                        replace p113 := eq_true p113
                        replace q113 := eq_true q113
                        try go_wp2
                        go_ret
                        exact ⟨by first | rfl | (simp [errW_none, errW_some] <;> rfl) | (simp [*, errW_none, errW_some] <;> rfl), by repeat (first | (with_reducible first | exact HB.out | apply below_alloc | apply pw_below_drewN | apply below_drew1) | exact HB.out)⟩
                      · rw [if_neg c32] at H
                        have c32b0 : (((rd_T23 l0 a1).f2) == 53) = false := beq_eq_false_iff_ne.mpr c32
                        have c32b1 : (((rd_T23 l0 a1).f2) != 53) = true := bne_iff_ne.mpr c32
                        obtain rfl := Option.some.inj H
                        have p104 : 0 ≤ (a1 : Int) := of_decide_eq_true (by first | (with_reducible assumption) | assumption)
                        have q104 : a1 < (l0.length : Int) := of_decide_eq_true (by first | (with_reducible assumption) | assumption)
                        obtain ⟨ad104, e104, hx104_0, hx104_1, hx104_2, hx104_3, hx104_4, hx104_5, hx104_6, hx104_7⟩ := at_T23 HR0.out a1 p104 q104
                        cases e104
                        replace hx104_0 := (HB.out.cell (World.block_lt_of_cell? w _ hx104_0)).trans hx104_0
                        replace hx104_1 := (HB.out.cell (World.block_lt_of_cell? w _ hx104_1)).trans hx104_1
                        replace hx104_2 := (HB.out.cell (World.block_lt_of_cell? w _ hx104_2)).trans hx104_2
                        replace hx104_3 := (HB.out.cell (World.block_lt_of_cell? w _ hx104_3)).trans hx104_3
                        replace hx104_4 := (HB.out.cell (World.block_lt_of_cell? w _ hx104_4)).trans hx104_4
                        replace hx104_5 := (HB.out.cell (World.block_lt_of_cell? w _ hx104_5)).trans hx104_5
                        replace hx104_6 := (HB.out.cell (World.block_lt_of_cell? w _ hx104_6)).trans hx104_6
                        replace hx104_7 := (HB.out.cell (World.block_lt_of_cell? w _ hx104_7)).trans hx104_7
                        replace p104 := eq_true p104
                        replace q104 := eq_true q104
                        try go_wp2_with (first | ((with_reducible refine gate_callee (f := 21) rfl ?_); refine goesL_ (some 53) rfl rfl Try.func21 (by kernel_rfl) rfl #[.slice (some ad104) l0.length c0, .string ((rd_T23 l0 a1).f0)] rfl (by (try simp only [List.map_toArray, List.map_cons, List.map_nil]); first | done | rfl | (simp only [List.length_drop, List.length_take]; rfl)) ?_; (with_reducible refine (tree_Under.calls _ _ l0 ((rd_T23 l0 a1).f0) t105 _ ?side1 ?side2 A24.out).mono ?_); (case side1 => repeat (first | exact (Kd.C_below HR0.out HB.out) | (with_reducible refine Kd.C_alloc ?_ _) | (with_reducible refine Kd.C_drewN ?_ _) | (with_reducible refine Kd.C_drew ?_))); (case side2 => exact HC0.out); rintro e w38 ⟨v106, rfl, ho0, hb⟩; refine ⟨_, rfl, ?_⟩; have n0_ := Aside0.mk (Kd.R_lower ho0 (below_size (by repeat (first | (with_reducible first | exact HB.out | apply below_alloc | apply pw_below_drewN | apply below_drew1) | exact HB.out)))); have n1_ := Aside0.mk (below_step (by repeat (first | (with_reducible first | exact HB.out | apply below_alloc | apply pw_below_drewN | apply below_drew1) | exact HB.out)) hb); clear HB; have HO107 := n0_; have HB := n1_; clear n0_ n1_; (try clear hb); (try clear hb2); (try clear hk); (try clear hi); (try clear ho0); have p108 : 0 ≤ (a2 : Int) := of_decide_eq_true (by first | (with_reducible assumption) | assumption); have q108 : a2 < (l0.length : Int) := of_decide_eq_true (by first | (with_reducible assumption) | assumption); obtain ⟨ad108, e108, hx108_0, hx108_1, hx108_2, hx108_3, hx108_4, hx108_5, hx108_6, hx108_7⟩ := at_T23 HR0.out a2 p108 q108; obtain rfl : ad104 = ad108 := (by injection e108); replace hx108_0 := (HB.out.cell (World.block_lt_of_cell? w _ hx108_0)).trans hx108_0; replace hx108_1 := (HB.out.cell (World.block_lt_of_cell? w _ hx108_1)).trans hx108_1; replace hx108_2 := (HB.out.cell (World.block_lt_of_cell? w _ hx108_2)).trans hx108_2; replace hx108_3 := (HB.out.cell (World.block_lt_of_cell? w _ hx108_3)).trans hx108_3; replace hx108_4 := (HB.out.cell (World.block_lt_of_cell? w _ hx108_4)).trans hx108_4; replace hx108_5 := (HB.out.cell (World.block_lt_of_cell? w _ hx108_5)).trans hx108_5; replace hx108_6 := (HB.out.cell (World.block_lt_of_cell? w _ hx108_6)).trans hx108_6; replace hx108_7 := (HB.out.cell (World.block_lt_of_cell? w _ hx108_7)).trans hx108_7; replace p108 := eq_true p108; replace q108 := eq_true q108; obtain ⟨Ao39, co39, eo39⟩ := Kd.R_slice HO107.out; subst eo39) | ((with_reducible refine gate_callee (f := 26) rfl ?_); refine goesL_ (some 60) rfl rfl Try.func26 (by kernel_rfl) rfl #[.slice Ao39 t105.length co39, .string ((rd_T23 l0 a2).f0)] rfl (by (try simp only [List.map_toArray, List.map_cons, List.map_nil]); first | done | rfl | (simp only [List.length_drop, List.length_take]; rfl)) ?_; (with_reducible refine (tree_Find.calls _ _ t105 ((rd_T23 l0 a2).f0) t109 _ ?side1 ?side2 A27.out).mono ?_); (case side1 => repeat (first | exact (Kd.R_reads' HO107.out).2.2 | (with_reducible refine Kd.C_alloc ?_ _) | (with_reducible refine Kd.C_drewN ?_ _) | (with_reducible refine Kd.C_drew ?_))); (case side2 => exact (Kd.R_reads' HO107.out).2.1); rintro e w40 ⟨rfl, hb⟩; refine ⟨_, rfl, ?_⟩; have n0_ := Aside0.mk (Kd.R_below (by (with_reducible repeat (first | apply Kd.R_alloc | apply Kd.R_drewN | apply Kd.R_drew)); exact HO107.out) hb); have n1_ := Aside0.mk (below_step (by repeat (first | (with_reducible first | exact HB.out | apply below_alloc | apply pw_below_drewN | apply below_drew1) | exact HB.out)) hb); clear HO107; clear HB; have HO107 := n0_; have HB := n1_; clear n0_ n1_; (try clear hb); (try clear hb2); (try clear hk); (try clear hi)))
                        have n0_ := Aside0.mk (Kd.R_drew HO107.out)
                        have n1_ := Aside0.mk (below_drew1 HB.out)
                        clear HO107
                        clear HB
                        have HO107 := n0_
                        have HB := n1_
                        clear n0_ n1_
                        have p110 : 0 ≤ (a2 : Int) := of_decide_eq_true (by first | (with_reducible assumption) | assumption)
                        have q110 : a2 < (l0.length : Int) := of_decide_eq_true (by first | (with_reducible assumption) | assumption)
                        obtain ⟨ad110, e110, hx110_0, hx110_1, hx110_2, hx110_3, hx110_4, hx110_5, hx110_6, hx110_7⟩ := at_T23 HR0.out a2 p110 q110
                        have hw110_7 := hx110_7
                        have hw110_6 := hx110_6
                        have hw110_5 := hx110_5
                        have hw110_4 := hx110_4
                        have hw110_3 := hx110_3
                        have hw110_2 := hx110_2
                        have hw110_1 := hx110_1
                        have hw110_0 := hx110_0
                        obtain rfl : ad104 = ad110 := (by injection e110)
                        replace hx110_0 := (HB.out.cell (World.block_lt_of_cell? w _ hx110_0)).trans hx110_0
                        replace hx110_1 := (HB.out.cell (World.block_lt_of_cell? w _ hx110_1)).trans hx110_1
                        replace hx110_2 := (HB.out.cell (World.block_lt_of_cell? w _ hx110_2)).trans hx110_2
                        replace hx110_3 := (HB.out.cell (World.block_lt_of_cell? w _ hx110_3)).trans hx110_3
                        replace hx110_4 := (HB.out.cell (World.block_lt_of_cell? w _ hx110_4)).trans hx110_4
                        replace hx110_5 := (HB.out.cell (World.block_lt_of_cell? w _ hx110_5)).trans hx110_5
                        replace hx110_6 := (HB.out.cell (World.block_lt_of_cell? w _ hx110_6)).trans hx110_6
                        replace hx110_7 := (HB.out.cell (World.block_lt_of_cell? w _ hx110_7)).trans hx110_7
                        replace p110 := eq_true p110
                        replace q110 := eq_true q110
                        have p111 : 0 ≤ (a1 : Int) := of_decide_eq_true (by first | (with_reducible assumption) | assumption)
                        have q111 : a1 < (l0.length : Int) := of_decide_eq_true (by first | (with_reducible assumption) | assumption)
                        obtain ⟨ad111, e111, hx111_0, hx111_1, hx111_2, hx111_3, hx111_4, hx111_5, hx111_6, hx111_7⟩ := at_T23 HR0.out a1 p111 q111
                        have hw111_7 := hx111_7
                        have hw111_6 := hx111_6
                        have hw111_5 := hx111_5
                        have hw111_4 := hx111_4
                        have hw111_3 := hx111_3
                        have hw111_2 := hx111_2
                        have hw111_1 := hx111_1
                        have hw111_0 := hx111_0
                        obtain rfl : ad104 = ad111 := (by injection e111)
                        replace hx111_0 := (HB.out.cell (World.block_lt_of_cell? w _ hx111_0)).trans hx111_0
                        replace hx111_1 := (HB.out.cell (World.block_lt_of_cell? w _ hx111_1)).trans hx111_1
                        replace hx111_2 := (HB.out.cell (World.block_lt_of_cell? w _ hx111_2)).trans hx111_2
                        replace hx111_3 := (HB.out.cell (World.block_lt_of_cell? w _ hx111_3)).trans hx111_3
                        replace hx111_4 := (HB.out.cell (World.block_lt_of_cell? w _ hx111_4)).trans hx111_4
                        replace hx111_5 := (HB.out.cell (World.block_lt_of_cell? w _ hx111_5)).trans hx111_5
                        replace hx111_6 := (HB.out.cell (World.block_lt_of_cell? w _ hx111_6)).trans hx111_6
                        replace hx111_7 := (HB.out.cell (World.block_lt_of_cell? w _ hx111_7)).trans hx111_7
                        replace p111 := eq_true p111
                        replace q111 := eq_true q111
                        refine start_ (n := 12) (S := fun w' => w'.cell? (ad104.add ((a2).toNat * 8)) = some (.string ((rd_T23 l0 a2).f0)) ∧ w'.cell? ⟨(ad104.add ((a2).toNat * 8)).block, (ad104.add ((a2).toNat * 8)).off + 1, none⟩ = some (.string ((rd_T23 l0 a2).f1)) ∧ w'.cell? ⟨(ad104.add ((a2).toNat * 8)).block, (ad104.add ((a2).toNat * 8)).off + 2, none⟩ = some (.int .u8 ((rd_T23 l0 a2).f2)) ∧ w'.cell? ⟨(ad104.add ((a2).toNat * 8)).block, (ad104.add ((a2).toNat * 8)).off + 3, none⟩ = some (.int .i64 ((rd_T23 l0 a2).f3)) ∧ w'.cell? ⟨(ad104.add ((a2).toNat * 8)).block, (ad104.add ((a2).toNat * 8)).off + 4, none⟩ = some (.int .i64 ((rd_T23 l0 a2).f4)) ∧ w'.cell? ⟨(ad104.add ((a2).toNat * 8)).block, (ad104.add ((a2).toNat * 8)).off + 5, none⟩ = some (.int .i64 ((rd_T23 l0 a2).f5)) ∧ w'.cell? ⟨(ad104.add ((a2).toNat * 8)).block, (ad104.add ((a2).toNat * 8)).off + 6, none⟩ = some (.int .i64 ((rd_T23 l0 a2).f6)) ∧ w'.cell? ⟨(ad104.add ((a2).toNat * 8)).block, (ad104.add ((a2).toNat * 8)).off + 7, none⟩ = some (.string ((rd_T23 l0 a2).f7)) ∧ w'.cell? (ad104.add ((a1).toNat * 8)) = some (.string ((rd_T23 l0 a1).f0)) ∧ w'.cell? ⟨(ad104.add ((a1).toNat * 8)).block, (ad104.add ((a1).toNat * 8)).off + 1, none⟩ = some (.string ((rd_T23 l0 a1).f1)) ∧ w'.cell? ⟨(ad104.add ((a1).toNat * 8)).block, (ad104.add ((a1).toNat * 8)).off + 2, none⟩ = some (.int .u8 ((rd_T23 l0 a1).f2)) ∧ w'.cell? ⟨(ad104.add ((a1).toNat * 8)).block, (ad104.add ((a1).toNat * 8)).off + 3, none⟩ = some (.int .i64 ((rd_T23 l0 a1).f3)) ∧ w'.cell? ⟨(ad104.add ((a1).toNat * 8)).block, (ad104.add ((a1).toNat * 8)).off + 4, none⟩ = some (.int .i64 ((rd_T23 l0 a1).f4)) ∧ w'.cell? ⟨(ad104.add ((a1).toNat * 8)).block, (ad104.add ((a1).toNat * 8)).off + 5, none⟩ = some (.int .i64 ((rd_T23 l0 a1).f5)) ∧ w'.cell? ⟨(ad104.add ((a1).toNat * 8)).block, (ad104.add ((a1).toNat * 8)).off + 6, none⟩ = some (.int .i64 ((rd_T23 l0 a1).f6)) ∧ w'.cell? ⟨(ad104.add ((a1).toNat * 8)).block, (ad104.add ((a1).toNat * 8)).off + 7, none⟩ = some (.string ((rd_T23 l0 a1).f7))) (ds := []) #[false, false, false, false, false, false, false, false, false, false, false, false] (by kernel_rfl) rfl rfl ⟨((HB.out.cell (World.block_lt_of_cell? w _ hw110_0)).trans hw110_0), ((HB.out.cell (World.block_lt_of_cell? w _ hw110_1)).trans hw110_1), ((HB.out.cell (World.block_lt_of_cell? w _ hw110_2)).trans hw110_2), ((HB.out.cell (World.block_lt_of_cell? w _ hw110_3)).trans hw110_3), ((HB.out.cell (World.block_lt_of_cell? w _ hw110_4)).trans hw110_4), ((HB.out.cell (World.block_lt_of_cell? w _ hw110_5)).trans hw110_5), ((HB.out.cell (World.block_lt_of_cell? w _ hw110_6)).trans hw110_6), ((HB.out.cell (World.block_lt_of_cell? w _ hw110_7)).trans hw110_7), ((HB.out.cell (World.block_lt_of_cell? w _ hw111_0)).trans hw111_0), ((HB.out.cell (World.block_lt_of_cell? w _ hw111_1)).trans hw111_1), ((HB.out.cell (World.block_lt_of_cell? w _ hw111_2)).trans hw111_2), ((HB.out.cell (World.block_lt_of_cell? w _ hw111_3)).trans hw111_3), ((HB.out.cell (World.block_lt_of_cell? w _ hw111_4)).trans hw111_4), ((HB.out.cell (World.block_lt_of_cell? w _ hw111_5)).trans hw111_5), ((HB.out.cell (World.block_lt_of_cell? w _ hw111_6)).trans hw111_6), ((HB.out.cell (World.block_lt_of_cell? w _ hw111_7)).trans hw111_7)⟩ (fun hHeld => ?_); refine with_tabW reelkeeperlaw06_TreeUnder.tab7 reelkeeperlaw06_TreeUnder.bits7 (fun HT_ HW_ => ?_)
                        generalize w40.drew = w41 at HO107 HB hx110_0 hx110_1 hx110_2 hx110_3 hx110_4 hx110_5 hx110_6 hx110_7 hx111_0 hx111_1 hx111_2 hx111_3 hx111_4 hx111_5 hx111_6 hx111_7 hHeld ⊢
                        refine pure_ (i := 0) (N := some 62) (v := ?_) (a' := ?_) #[true, false, false, false, false, false, false, false, false, false, false, false] rfl rfl (any_of HT_.out (by kernel_rfl)) (fun _ _ _ h => h) (Or.inl ⟨by rfl, ?_⟩) ?_ ?_
                        rotate_left
                        · intro w'
                          go_simp
                          with_reducible rfl
                        rotate_left
                        · simp only [Act.put, List.setIfInBounds_toArray, List.set_cons_zero, List.set_cons_succ, i64_w, i32_w]
                          rfl
                        refine pure_ (i := 1) (N := some 63) (v := ?_) (a' := ?_) #[true, true, false, false, false, false, false, false, false, false, false, false] rfl rfl (any_of HT_.out (by kernel_rfl)) (fun _ _ _ h => h) (Or.inl ⟨by rfl, ?_⟩) ?_ ?_
                        rotate_left
                        · intro w'
                          go_simp
                          with_reducible rfl
                        rotate_left
                        · simp only [Act.put, List.setIfInBounds_toArray, List.set_cons_zero, List.set_cons_succ, i64_w, i32_w]
                          rfl
                        refine pure_ (i := 2) (N := some 64) (v := ?_) (a' := ?_) #[true, true, true, false, false, false, false, false, false, false, false, false] rfl rfl (any_of HT_.out (by kernel_rfl)) (fun _ _ _ h => h) (Or.inl ⟨by rfl, ?_⟩) ?_ ?_
                        rotate_left
                        · intro w'
                          go_simp
                          with_reducible rfl
                        rotate_left
                        · simp only [Act.put, List.setIfInBounds_toArray, List.set_cons_zero, List.set_cons_succ, i64_w, i32_w]
                          rfl
                        refine pure_ (i := 3) (N := some 65) (v := ?_) (a' := ?_) #[true, true, true, true, false, false, false, false, false, false, false, false] rfl rfl (any_of HT_.out (by kernel_rfl)) (fun _ _ _ h => h) (Or.inl ⟨by rfl, ?_⟩) ?_ ?_
                        rotate_left
                        · intro w'
                          go_simp
                          with_reducible rfl
                        rotate_left
                        · simp only [Act.put, List.setIfInBounds_toArray, List.set_cons_zero, List.set_cons_succ, i64_w, i32_w]
                          rfl
                        refine pure_ (i := 5) (N := some 67) (v := ?_) (a' := ?_) #[true, true, true, true, false, true, false, false, false, false, false, false] rfl rfl (any_of HT_.out (by kernel_rfl)) (fun _ _ _ h => h) (Or.inl ⟨by rfl, ?_⟩) ?_ ?_
                        rotate_left
                        · intro w'
                          go_simp
                          with_reducible rfl
                        rotate_left
                        · simp only [Act.put, List.setIfInBounds_toArray, List.set_cons_zero, List.set_cons_succ, i64_w, i32_w]
                          rfl
                        refine pure_ (i := 6) (N := some 68) (v := ?_) (a' := ?_) #[true, true, true, true, false, true, true, false, false, false, false, false] rfl rfl (any_of HT_.out (by kernel_rfl)) (fun _ _ _ h => h) (Or.inl ⟨by rfl, ?_⟩) ?_ ?_
                        rotate_left
                        · intro w'
                          go_simp
                          with_reducible rfl
                        rotate_left
                        · simp only [Act.put, List.setIfInBounds_toArray, List.set_cons_zero, List.set_cons_succ, i64_w, i32_w]
                          rfl
                        refine pure_ (i := 7) (N := some 69) (v := ?_) (a' := ?_) #[true, true, true, true, false, true, true, true, false, false, false, false] rfl rfl (any_of HT_.out (by kernel_rfl)) (fun _ _ _ h => h) (Or.inl ⟨by rfl, ?_⟩) ?_ ?_
                        rotate_left
                        · intro w'
                          go_simp
                          with_reducible rfl
                        rotate_left
                        · simp only [Act.put, List.setIfInBounds_toArray, List.set_cons_zero, List.set_cons_succ, i64_w, i32_w]
                          rfl
                        refine pure_ (i := 8) (N := some 70) (v := ?_) (a' := ?_) #[true, true, true, true, false, true, true, true, true, false, false, false] rfl rfl (any_of HT_.out (by kernel_rfl)) (fun _ _ _ h => h) (Or.inl ⟨by rfl, ?_⟩) ?_ ?_
                        rotate_left
                        · intro w'
                          go_simp
                          with_reducible rfl
                        rotate_left
                        · simp only [Act.put, List.setIfInBounds_toArray, List.set_cons_zero, List.set_cons_succ, i64_w, i32_w]
                          rfl
                        refine take_ (i := 4) (N := some 66) (v := ?_) (a' := ?_) #[true, true, true, true, true, true, true, true, true, false, false, false] rfl rfl (take_ofW HT_.out HW_.out (by kernel_rfl)) (fun _ _ _ h => h) (Or.inl ⟨by rfl, ?_⟩) hHeld ?_ ?_
                        rotate_left
                        · rintro w' ⟨s0, s1, s2, s3, s4, s5, s6, s7, s8, s9, s10, s11, s12, s13, s14, s15⟩
                          go_simp
                          with_reducible rfl
                        rotate_left
                        · simp only [Act.put, List.setIfInBounds_toArray, List.set_cons_zero, List.set_cons_succ, i64_w, i32_w]
                          rfl
                        refine take_ (i := 9) (N := some 71) (v := ?_) (a' := ?_) #[true, true, true, true, true, true, true, true, true, true, false, false] rfl rfl (take_ofW HT_.out HW_.out (by kernel_rfl)) (fun _ _ _ h => h) (Or.inl ⟨by rfl, ?_⟩) hHeld ?_ ?_
                        rotate_left
                        · rintro w' ⟨s0, s1, s2, s3, s4, s5, s6, s7, s8, s9, s10, s11, s12, s13, s14, s15⟩
                          go_simp
                          with_reducible rfl
                        rotate_left
                        · simp only [Act.put, List.setIfInBounds_toArray, List.set_cons_zero, List.set_cons_succ, i64_w, i32_w]
                          rfl
                        refine one_ (i := 10) (N := some 72) #[true, true, true, true, true, true, true, true, true, true, true, false] rfl rfl (one_of HT_.out (by kernel_rfl)) (by decide) (fun K hK => ?_)
                        refine goes_ Try.func28 (by kernel_rfl) rfl #[.string ((rd_T23 l0 a2).f0), .string ((rd_T23 l0 a1).f0)] (by rfl) rfl rfl (by (try simp only [List.map_toArray, List.map_cons, List.map_nil]); first | done | rfl | (simp only [List.length_drop, List.length_take]; rfl)) ?_
                        with_reducible refine (path_Below.calls ((rd_T23 l0 a2).f0) ((rd_T23 l0 a1).f0) true _ A28.out).mono ?_
                        rintro e w42 ⟨rfl, hb⟩
                        refine ⟨_, rfl, ?_⟩
                        have n0_ := Aside0.mk (Kd.R_below (by (with_reducible repeat (first | apply Kd.R_alloc | apply Kd.R_drewN | apply Kd.R_drew)); exact HO107.out) hb)
                        have n1_ := Aside0.mk (below_step (by repeat (first | (with_reducible first | exact HB.out | apply below_alloc | apply pw_below_drewN | apply below_drew1) | exact HB.out)) hb)
                        clear HO107
                        clear HB
                        have HO107 := n0_
                        have HB := n1_
                        clear n0_ n1_
                        (try clear hb)
                        (try clear hb2)
                        (try clear hk)
                        (try clear hi)
                        refine hK.out _ _ ⟨((HB.out.cell (World.block_lt_of_cell? w _ hw110_0)).trans hw110_0), ((HB.out.cell (World.block_lt_of_cell? w _ hw110_1)).trans hw110_1), ((HB.out.cell (World.block_lt_of_cell? w _ hw110_2)).trans hw110_2), ((HB.out.cell (World.block_lt_of_cell? w _ hw110_3)).trans hw110_3), ((HB.out.cell (World.block_lt_of_cell? w _ hw110_4)).trans hw110_4), ((HB.out.cell (World.block_lt_of_cell? w _ hw110_5)).trans hw110_5), ((HB.out.cell (World.block_lt_of_cell? w _ hw110_6)).trans hw110_6), ((HB.out.cell (World.block_lt_of_cell? w _ hw110_7)).trans hw110_7), ((HB.out.cell (World.block_lt_of_cell? w _ hw111_0)).trans hw111_0), ((HB.out.cell (World.block_lt_of_cell? w _ hw111_1)).trans hw111_1), ((HB.out.cell (World.block_lt_of_cell? w _ hw111_2)).trans hw111_2), ((HB.out.cell (World.block_lt_of_cell? w _ hw111_3)).trans hw111_3), ((HB.out.cell (World.block_lt_of_cell? w _ hw111_4)).trans hw111_4), ((HB.out.cell (World.block_lt_of_cell? w _ hw111_5)).trans hw111_5), ((HB.out.cell (World.block_lt_of_cell? w _ hw111_6)).trans hw111_6), ((HB.out.cell (World.block_lt_of_cell? w _ hw111_7)).trans hw111_7)⟩ (fun hHeld => ?_)
                        clear hK K
                        refine norm_ (a' := ?_) ?_ ?_
                        rotate_left
                        · show Act.put _ (some 72) _ = _
                          simp only [Act.put, List.setIfInBounds_toArray, List.set_cons_zero, List.set_cons_succ, i64_w, i32_w]
                          rfl
                        refine pure_ (i := 11) (N := some 11) (v := ?_) (a' := ?_) #[true, true, true, true, true, true, true, true, true, true, true, true] rfl rfl (any_of HT_.out (by kernel_rfl)) (fun _ _ _ h => h) (Or.inl ⟨by rfl, ?_⟩) ?_ ?_
                        rotate_left
                        · intro w'
                          go_simp
                          with_reducible rfl
                        rotate_left
                        · simp only [Act.put, List.setIfInBounds_toArray, List.set_cons_zero, List.set_cons_succ, i64_w, i32_w]
                          rfl
                        refine done_ (done_of HT_.out (by kernel_rfl)) ?_
                        have p113 : 0 ≤ (a1 : Int) := of_decide_eq_true (by first | (with_reducible assumption) | assumption)
                        have q113 : a1 < (l0.length : Int) := of_decide_eq_true (by first | (with_reducible assumption) | assumption)
                        obtain ⟨ad113, e113, hx113_0, hx113_1, hx113_2, hx113_3, hx113_4, hx113_5, hx113_6, hx113_7⟩ := at_T23 HR0.out a1 p113 q113
                        obtain rfl : ad104 = ad113 := (by injection e113)
                        replace hx113_0 := (HB.out.cell (World.block_lt_of_cell? w _ hx113_0)).trans hx113_0
                        replace hx113_1 := (HB.out.cell (World.block_lt_of_cell? w _ hx113_1)).trans hx113_1
                        replace hx113_2 := (HB.out.cell (World.block_lt_of_cell? w _ hx113_2)).trans hx113_2
                        replace hx113_3 := (HB.out.cell (World.block_lt_of_cell? w _ hx113_3)).trans hx113_3
                        replace hx113_4 := (HB.out.cell (World.block_lt_of_cell? w _ hx113_4)).trans hx113_4
                        replace hx113_5 := (HB.out.cell (World.block_lt_of_cell? w _ hx113_5)).trans hx113_5
                        replace hx113_6 := (HB.out.cell (World.block_lt_of_cell? w _ hx113_6)).trans hx113_6
                        replace hx113_7 := (HB.out.cell (World.block_lt_of_cell? w _ hx113_7)).trans hx113_7
                        replace p113 := eq_true p113
                        replace q113 := eq_true q113
                        try go_wp2
                        go_ret
                        exact ⟨by first | rfl | (simp [errW_none, errW_some] <;> rfl) | (simp [*, errW_none, errW_some] <;> rfl), by repeat (first | (with_reducible first | exact HB.out | apply below_alloc | apply pw_below_drewN | apply below_drew1) | exact HB.out)⟩
                    · rw [if_neg c31] at H
                      have c31b0 : decide (a1 < a2) = false := decide_eq_false c31
                      clear c31
                      obtain rfl := Option.some.inj H
                      have p104 : 0 ≤ (a1 : Int) := of_decide_eq_true (by first | (with_reducible assumption) | assumption)
                      have q104 : a1 < (l0.length : Int) := of_decide_eq_true (by first | (with_reducible assumption) | assumption)
                      obtain ⟨ad104, e104, hx104_0, hx104_1, hx104_2, hx104_3, hx104_4, hx104_5, hx104_6, hx104_7⟩ := at_T23 HR0.out a1 p104 q104
                      cases e104
                      replace hx104_0 := (HB.out.cell (World.block_lt_of_cell? w _ hx104_0)).trans hx104_0
                      replace hx104_1 := (HB.out.cell (World.block_lt_of_cell? w _ hx104_1)).trans hx104_1
                      replace hx104_2 := (HB.out.cell (World.block_lt_of_cell? w _ hx104_2)).trans hx104_2
                      replace hx104_3 := (HB.out.cell (World.block_lt_of_cell? w _ hx104_3)).trans hx104_3
                      replace hx104_4 := (HB.out.cell (World.block_lt_of_cell? w _ hx104_4)).trans hx104_4
                      replace hx104_5 := (HB.out.cell (World.block_lt_of_cell? w _ hx104_5)).trans hx104_5
                      replace hx104_6 := (HB.out.cell (World.block_lt_of_cell? w _ hx104_6)).trans hx104_6
                      replace hx104_7 := (HB.out.cell (World.block_lt_of_cell? w _ hx104_7)).trans hx104_7
                      replace p104 := eq_true p104
                      replace q104 := eq_true q104
                      try go_wp2_with (first | ((with_reducible refine gate_callee (f := 21) rfl ?_); refine goesL_ (some 53) rfl rfl Try.func21 (by kernel_rfl) rfl #[.slice (some ad104) l0.length c0, .string ((rd_T23 l0 a1).f0)] rfl (by (try simp only [List.map_toArray, List.map_cons, List.map_nil]); first | done | rfl | (simp only [List.length_drop, List.length_take]; rfl)) ?_; (with_reducible refine (tree_Under.calls _ _ l0 ((rd_T23 l0 a1).f0) t105 _ ?side1 ?side2 A24.out).mono ?_); (case side1 => repeat (first | exact (Kd.C_below HR0.out HB.out) | (with_reducible refine Kd.C_alloc ?_ _) | (with_reducible refine Kd.C_drewN ?_ _) | (with_reducible refine Kd.C_drew ?_))); (case side2 => exact HC0.out); rintro e w43 ⟨v106, rfl, ho0, hb⟩; refine ⟨_, rfl, ?_⟩; have n0_ := Aside0.mk (Kd.R_lower ho0 (below_size (by repeat (first | (with_reducible first | exact HB.out | apply below_alloc | apply pw_below_drewN | apply below_drew1) | exact HB.out)))); have n1_ := Aside0.mk (below_step (by repeat (first | (with_reducible first | exact HB.out | apply below_alloc | apply pw_below_drewN | apply below_drew1) | exact HB.out)) hb); clear HB; have HO107 := n0_; have HB := n1_; clear n0_ n1_; (try clear hb); (try clear hb2); (try clear hk); (try clear hi); (try clear ho0); have p108 : 0 ≤ (a2 : Int) := of_decide_eq_true (by first | (with_reducible assumption) | assumption); have q108 : a2 < (l0.length : Int) := of_decide_eq_true (by first | (with_reducible assumption) | assumption); obtain ⟨ad108, e108, hx108_0, hx108_1, hx108_2, hx108_3, hx108_4, hx108_5, hx108_6, hx108_7⟩ := at_T23 HR0.out a2 p108 q108; obtain rfl : ad104 = ad108 := (by injection e108); replace hx108_0 := (HB.out.cell (World.block_lt_of_cell? w _ hx108_0)).trans hx108_0; replace hx108_1 := (HB.out.cell (World.block_lt_of_cell? w _ hx108_1)).trans hx108_1; replace hx108_2 := (HB.out.cell (World.block_lt_of_cell? w _ hx108_2)).trans hx108_2; replace hx108_3 := (HB.out.cell (World.block_lt_of_cell? w _ hx108_3)).trans hx108_3; replace hx108_4 := (HB.out.cell (World.block_lt_of_cell? w _ hx108_4)).trans hx108_4; replace hx108_5 := (HB.out.cell (World.block_lt_of_cell? w _ hx108_5)).trans hx108_5; replace hx108_6 := (HB.out.cell (World.block_lt_of_cell? w _ hx108_6)).trans hx108_6; replace hx108_7 := (HB.out.cell (World.block_lt_of_cell? w _ hx108_7)).trans hx108_7; replace p108 := eq_true p108; replace q108 := eq_true q108; obtain ⟨Ao44, co44, eo44⟩ := Kd.R_slice HO107.out; subst eo44) | ((with_reducible refine gate_callee (f := 26) rfl ?_); refine goesL_ (some 60) rfl rfl Try.func26 (by kernel_rfl) rfl #[.slice Ao44 t105.length co44, .string ((rd_T23 l0 a2).f0)] rfl (by (try simp only [List.map_toArray, List.map_cons, List.map_nil]); first | done | rfl | (simp only [List.length_drop, List.length_take]; rfl)) ?_; (with_reducible refine (tree_Find.calls _ _ t105 ((rd_T23 l0 a2).f0) t109 _ ?side1 ?side2 A27.out).mono ?_); (case side1 => repeat (first | exact (Kd.R_reads' HO107.out).2.2 | (with_reducible refine Kd.C_alloc ?_ _) | (with_reducible refine Kd.C_drewN ?_ _) | (with_reducible refine Kd.C_drew ?_))); (case side2 => exact (Kd.R_reads' HO107.out).2.1); rintro e w45 ⟨rfl, hb⟩; refine ⟨_, rfl, ?_⟩; have n0_ := Aside0.mk (Kd.R_below (by (with_reducible repeat (first | apply Kd.R_alloc | apply Kd.R_drewN | apply Kd.R_drew)); exact HO107.out) hb); have n1_ := Aside0.mk (below_step (by repeat (first | (with_reducible first | exact HB.out | apply below_alloc | apply pw_below_drewN | apply below_drew1) | exact HB.out)) hb); clear HO107; clear HB; have HO107 := n0_; have HB := n1_; clear n0_ n1_; (try clear hb); (try clear hb2); (try clear hk); (try clear hi)))
                      have n0_ := Aside0.mk (Kd.R_drew HO107.out)
                      have n1_ := Aside0.mk (below_drew1 HB.out)
                      clear HO107
                      clear HB
                      have HO107 := n0_
                      have HB := n1_
                      clear n0_ n1_
                      have p110 : 0 ≤ (a2 : Int) := of_decide_eq_true (by first | (with_reducible assumption) | assumption)
                      have q110 : a2 < (l0.length : Int) := of_decide_eq_true (by first | (with_reducible assumption) | assumption)
                      obtain ⟨ad110, e110, hx110_0, hx110_1, hx110_2, hx110_3, hx110_4, hx110_5, hx110_6, hx110_7⟩ := at_T23 HR0.out a2 p110 q110
                      have hw110_7 := hx110_7
                      have hw110_6 := hx110_6
                      have hw110_5 := hx110_5
                      have hw110_4 := hx110_4
                      have hw110_3 := hx110_3
                      have hw110_2 := hx110_2
                      have hw110_1 := hx110_1
                      have hw110_0 := hx110_0
                      obtain rfl : ad104 = ad110 := (by injection e110)
                      replace hx110_0 := (HB.out.cell (World.block_lt_of_cell? w _ hx110_0)).trans hx110_0
                      replace hx110_1 := (HB.out.cell (World.block_lt_of_cell? w _ hx110_1)).trans hx110_1
                      replace hx110_2 := (HB.out.cell (World.block_lt_of_cell? w _ hx110_2)).trans hx110_2
                      replace hx110_3 := (HB.out.cell (World.block_lt_of_cell? w _ hx110_3)).trans hx110_3
                      replace hx110_4 := (HB.out.cell (World.block_lt_of_cell? w _ hx110_4)).trans hx110_4
                      replace hx110_5 := (HB.out.cell (World.block_lt_of_cell? w _ hx110_5)).trans hx110_5
                      replace hx110_6 := (HB.out.cell (World.block_lt_of_cell? w _ hx110_6)).trans hx110_6
                      replace hx110_7 := (HB.out.cell (World.block_lt_of_cell? w _ hx110_7)).trans hx110_7
                      replace p110 := eq_true p110
                      replace q110 := eq_true q110
                      have p111 : 0 ≤ (a1 : Int) := of_decide_eq_true (by first | (with_reducible assumption) | assumption)
                      have q111 : a1 < (l0.length : Int) := of_decide_eq_true (by first | (with_reducible assumption) | assumption)
                      obtain ⟨ad111, e111, hx111_0, hx111_1, hx111_2, hx111_3, hx111_4, hx111_5, hx111_6, hx111_7⟩ := at_T23 HR0.out a1 p111 q111
                      have hw111_7 := hx111_7
                      have hw111_6 := hx111_6
                      have hw111_5 := hx111_5
                      have hw111_4 := hx111_4
                      have hw111_3 := hx111_3
                      have hw111_2 := hx111_2
                      have hw111_1 := hx111_1
                      have hw111_0 := hx111_0
                      obtain rfl : ad104 = ad111 := (by injection e111)
                      replace hx111_0 := (HB.out.cell (World.block_lt_of_cell? w _ hx111_0)).trans hx111_0
                      replace hx111_1 := (HB.out.cell (World.block_lt_of_cell? w _ hx111_1)).trans hx111_1
                      replace hx111_2 := (HB.out.cell (World.block_lt_of_cell? w _ hx111_2)).trans hx111_2
                      replace hx111_3 := (HB.out.cell (World.block_lt_of_cell? w _ hx111_3)).trans hx111_3
                      replace hx111_4 := (HB.out.cell (World.block_lt_of_cell? w _ hx111_4)).trans hx111_4
                      replace hx111_5 := (HB.out.cell (World.block_lt_of_cell? w _ hx111_5)).trans hx111_5
                      replace hx111_6 := (HB.out.cell (World.block_lt_of_cell? w _ hx111_6)).trans hx111_6
                      replace hx111_7 := (HB.out.cell (World.block_lt_of_cell? w _ hx111_7)).trans hx111_7
                      replace p111 := eq_true p111
                      replace q111 := eq_true q111
                      refine start_ (n := 12) (S := fun w' => w'.cell? (ad104.add ((a2).toNat * 8)) = some (.string ((rd_T23 l0 a2).f0)) ∧ w'.cell? ⟨(ad104.add ((a2).toNat * 8)).block, (ad104.add ((a2).toNat * 8)).off + 1, none⟩ = some (.string ((rd_T23 l0 a2).f1)) ∧ w'.cell? ⟨(ad104.add ((a2).toNat * 8)).block, (ad104.add ((a2).toNat * 8)).off + 2, none⟩ = some (.int .u8 ((rd_T23 l0 a2).f2)) ∧ w'.cell? ⟨(ad104.add ((a2).toNat * 8)).block, (ad104.add ((a2).toNat * 8)).off + 3, none⟩ = some (.int .i64 ((rd_T23 l0 a2).f3)) ∧ w'.cell? ⟨(ad104.add ((a2).toNat * 8)).block, (ad104.add ((a2).toNat * 8)).off + 4, none⟩ = some (.int .i64 ((rd_T23 l0 a2).f4)) ∧ w'.cell? ⟨(ad104.add ((a2).toNat * 8)).block, (ad104.add ((a2).toNat * 8)).off + 5, none⟩ = some (.int .i64 ((rd_T23 l0 a2).f5)) ∧ w'.cell? ⟨(ad104.add ((a2).toNat * 8)).block, (ad104.add ((a2).toNat * 8)).off + 6, none⟩ = some (.int .i64 ((rd_T23 l0 a2).f6)) ∧ w'.cell? ⟨(ad104.add ((a2).toNat * 8)).block, (ad104.add ((a2).toNat * 8)).off + 7, none⟩ = some (.string ((rd_T23 l0 a2).f7)) ∧ w'.cell? (ad104.add ((a1).toNat * 8)) = some (.string ((rd_T23 l0 a1).f0)) ∧ w'.cell? ⟨(ad104.add ((a1).toNat * 8)).block, (ad104.add ((a1).toNat * 8)).off + 1, none⟩ = some (.string ((rd_T23 l0 a1).f1)) ∧ w'.cell? ⟨(ad104.add ((a1).toNat * 8)).block, (ad104.add ((a1).toNat * 8)).off + 2, none⟩ = some (.int .u8 ((rd_T23 l0 a1).f2)) ∧ w'.cell? ⟨(ad104.add ((a1).toNat * 8)).block, (ad104.add ((a1).toNat * 8)).off + 3, none⟩ = some (.int .i64 ((rd_T23 l0 a1).f3)) ∧ w'.cell? ⟨(ad104.add ((a1).toNat * 8)).block, (ad104.add ((a1).toNat * 8)).off + 4, none⟩ = some (.int .i64 ((rd_T23 l0 a1).f4)) ∧ w'.cell? ⟨(ad104.add ((a1).toNat * 8)).block, (ad104.add ((a1).toNat * 8)).off + 5, none⟩ = some (.int .i64 ((rd_T23 l0 a1).f5)) ∧ w'.cell? ⟨(ad104.add ((a1).toNat * 8)).block, (ad104.add ((a1).toNat * 8)).off + 6, none⟩ = some (.int .i64 ((rd_T23 l0 a1).f6)) ∧ w'.cell? ⟨(ad104.add ((a1).toNat * 8)).block, (ad104.add ((a1).toNat * 8)).off + 7, none⟩ = some (.string ((rd_T23 l0 a1).f7))) (ds := []) #[false, false, false, false, false, false, false, false, false, false, false, false] (by kernel_rfl) rfl rfl ⟨((HB.out.cell (World.block_lt_of_cell? w _ hw110_0)).trans hw110_0), ((HB.out.cell (World.block_lt_of_cell? w _ hw110_1)).trans hw110_1), ((HB.out.cell (World.block_lt_of_cell? w _ hw110_2)).trans hw110_2), ((HB.out.cell (World.block_lt_of_cell? w _ hw110_3)).trans hw110_3), ((HB.out.cell (World.block_lt_of_cell? w _ hw110_4)).trans hw110_4), ((HB.out.cell (World.block_lt_of_cell? w _ hw110_5)).trans hw110_5), ((HB.out.cell (World.block_lt_of_cell? w _ hw110_6)).trans hw110_6), ((HB.out.cell (World.block_lt_of_cell? w _ hw110_7)).trans hw110_7), ((HB.out.cell (World.block_lt_of_cell? w _ hw111_0)).trans hw111_0), ((HB.out.cell (World.block_lt_of_cell? w _ hw111_1)).trans hw111_1), ((HB.out.cell (World.block_lt_of_cell? w _ hw111_2)).trans hw111_2), ((HB.out.cell (World.block_lt_of_cell? w _ hw111_3)).trans hw111_3), ((HB.out.cell (World.block_lt_of_cell? w _ hw111_4)).trans hw111_4), ((HB.out.cell (World.block_lt_of_cell? w _ hw111_5)).trans hw111_5), ((HB.out.cell (World.block_lt_of_cell? w _ hw111_6)).trans hw111_6), ((HB.out.cell (World.block_lt_of_cell? w _ hw111_7)).trans hw111_7)⟩ (fun hHeld => ?_); refine with_tabW reelkeeperlaw06_TreeUnder.tab7 reelkeeperlaw06_TreeUnder.bits7 (fun HT_ HW_ => ?_)
                      generalize w45.drew = w46 at HO107 HB hx110_0 hx110_1 hx110_2 hx110_3 hx110_4 hx110_5 hx110_6 hx110_7 hx111_0 hx111_1 hx111_2 hx111_3 hx111_4 hx111_5 hx111_6 hx111_7 hHeld ⊢
                      refine pure_ (i := 0) (N := some 62) (v := ?_) (a' := ?_) #[true, false, false, false, false, false, false, false, false, false, false, false] rfl rfl (any_of HT_.out (by kernel_rfl)) (fun _ _ _ h => h) (Or.inl ⟨by rfl, ?_⟩) ?_ ?_
                      rotate_left
                      · intro w'
                        go_simp
                        with_reducible rfl
                      rotate_left
                      · simp only [Act.put, List.setIfInBounds_toArray, List.set_cons_zero, List.set_cons_succ, i64_w, i32_w]
                        rfl
                      refine pure_ (i := 1) (N := some 63) (v := ?_) (a' := ?_) #[true, true, false, false, false, false, false, false, false, false, false, false] rfl rfl (any_of HT_.out (by kernel_rfl)) (fun _ _ _ h => h) (Or.inl ⟨by rfl, ?_⟩) ?_ ?_
                      rotate_left
                      · intro w'
                        go_simp
                        with_reducible rfl
                      rotate_left
                      · simp only [Act.put, List.setIfInBounds_toArray, List.set_cons_zero, List.set_cons_succ, i64_w, i32_w]
                        rfl
                      refine pure_ (i := 2) (N := some 64) (v := ?_) (a' := ?_) #[true, true, true, false, false, false, false, false, false, false, false, false] rfl rfl (any_of HT_.out (by kernel_rfl)) (fun _ _ _ h => h) (Or.inl ⟨by rfl, ?_⟩) ?_ ?_
                      rotate_left
                      · intro w'
                        go_simp
                        with_reducible rfl
                      rotate_left
                      · simp only [Act.put, List.setIfInBounds_toArray, List.set_cons_zero, List.set_cons_succ, i64_w, i32_w]
                        rfl
                      refine pure_ (i := 3) (N := some 65) (v := ?_) (a' := ?_) #[true, true, true, true, false, false, false, false, false, false, false, false] rfl rfl (any_of HT_.out (by kernel_rfl)) (fun _ _ _ h => h) (Or.inl ⟨by rfl, ?_⟩) ?_ ?_
                      rotate_left
                      · intro w'
                        go_simp
                        with_reducible rfl
                      rotate_left
                      · simp only [Act.put, List.setIfInBounds_toArray, List.set_cons_zero, List.set_cons_succ, i64_w, i32_w]
                        rfl
                      refine pure_ (i := 5) (N := some 67) (v := ?_) (a' := ?_) #[true, true, true, true, false, true, false, false, false, false, false, false] rfl rfl (any_of HT_.out (by kernel_rfl)) (fun _ _ _ h => h) (Or.inl ⟨by rfl, ?_⟩) ?_ ?_
                      rotate_left
                      · intro w'
                        go_simp
                        with_reducible rfl
                      rotate_left
                      · simp only [Act.put, List.setIfInBounds_toArray, List.set_cons_zero, List.set_cons_succ, i64_w, i32_w]
                        rfl
                      refine pure_ (i := 6) (N := some 68) (v := ?_) (a' := ?_) #[true, true, true, true, false, true, true, false, false, false, false, false] rfl rfl (any_of HT_.out (by kernel_rfl)) (fun _ _ _ h => h) (Or.inl ⟨by rfl, ?_⟩) ?_ ?_
                      rotate_left
                      · intro w'
                        go_simp
                        with_reducible rfl
                      rotate_left
                      · simp only [Act.put, List.setIfInBounds_toArray, List.set_cons_zero, List.set_cons_succ, i64_w, i32_w]
                        rfl
                      refine pure_ (i := 7) (N := some 69) (v := ?_) (a' := ?_) #[true, true, true, true, false, true, true, true, false, false, false, false] rfl rfl (any_of HT_.out (by kernel_rfl)) (fun _ _ _ h => h) (Or.inl ⟨by rfl, ?_⟩) ?_ ?_
                      rotate_left
                      · intro w'
                        go_simp
                        with_reducible rfl
                      rotate_left
                      · simp only [Act.put, List.setIfInBounds_toArray, List.set_cons_zero, List.set_cons_succ, i64_w, i32_w]
                        rfl
                      refine pure_ (i := 8) (N := some 70) (v := ?_) (a' := ?_) #[true, true, true, true, false, true, true, true, true, false, false, false] rfl rfl (any_of HT_.out (by kernel_rfl)) (fun _ _ _ h => h) (Or.inl ⟨by rfl, ?_⟩) ?_ ?_
                      rotate_left
                      · intro w'
                        go_simp
                        with_reducible rfl
                      rotate_left
                      · simp only [Act.put, List.setIfInBounds_toArray, List.set_cons_zero, List.set_cons_succ, i64_w, i32_w]
                        rfl
                      refine take_ (i := 4) (N := some 66) (v := ?_) (a' := ?_) #[true, true, true, true, true, true, true, true, true, false, false, false] rfl rfl (take_ofW HT_.out HW_.out (by kernel_rfl)) (fun _ _ _ h => h) (Or.inl ⟨by rfl, ?_⟩) hHeld ?_ ?_
                      rotate_left
                      · rintro w' ⟨s0, s1, s2, s3, s4, s5, s6, s7, s8, s9, s10, s11, s12, s13, s14, s15⟩
                        go_simp
                        with_reducible rfl
                      rotate_left
                      · simp only [Act.put, List.setIfInBounds_toArray, List.set_cons_zero, List.set_cons_succ, i64_w, i32_w]
                        rfl
                      refine take_ (i := 9) (N := some 71) (v := ?_) (a' := ?_) #[true, true, true, true, true, true, true, true, true, true, false, false] rfl rfl (take_ofW HT_.out HW_.out (by kernel_rfl)) (fun _ _ _ h => h) (Or.inl ⟨by rfl, ?_⟩) hHeld ?_ ?_
                      rotate_left
                      · rintro w' ⟨s0, s1, s2, s3, s4, s5, s6, s7, s8, s9, s10, s11, s12, s13, s14, s15⟩
                        go_simp
                        with_reducible rfl
                      rotate_left
                      · simp only [Act.put, List.setIfInBounds_toArray, List.set_cons_zero, List.set_cons_succ, i64_w, i32_w]
                        rfl
                      refine one_ (i := 10) (N := some 72) #[true, true, true, true, true, true, true, true, true, true, true, false] rfl rfl (one_of HT_.out (by kernel_rfl)) (by decide) (fun K hK => ?_)
                      refine goes_ Try.func28 (by kernel_rfl) rfl #[.string ((rd_T23 l0 a2).f0), .string ((rd_T23 l0 a1).f0)] (by rfl) rfl rfl (by (try simp only [List.map_toArray, List.map_cons, List.map_nil]); first | done | rfl | (simp only [List.length_drop, List.length_take]; rfl)) ?_
                      with_reducible refine (path_Below.calls ((rd_T23 l0 a2).f0) ((rd_T23 l0 a1).f0) true _ A28.out).mono ?_
                      rintro e w47 ⟨rfl, hb⟩
                      refine ⟨_, rfl, ?_⟩
                      have n0_ := Aside0.mk (Kd.R_below (by (with_reducible repeat (first | apply Kd.R_alloc | apply Kd.R_drewN | apply Kd.R_drew)); exact HO107.out) hb)
                      have n1_ := Aside0.mk (below_step (by repeat (first | (with_reducible first | exact HB.out | apply below_alloc | apply pw_below_drewN | apply below_drew1) | exact HB.out)) hb)
                      clear HO107
                      clear HB
                      have HO107 := n0_
                      have HB := n1_
                      clear n0_ n1_
                      (try clear hb)
                      (try clear hb2)
                      (try clear hk)
                      (try clear hi)
                      refine hK.out _ _ ⟨((HB.out.cell (World.block_lt_of_cell? w _ hw110_0)).trans hw110_0), ((HB.out.cell (World.block_lt_of_cell? w _ hw110_1)).trans hw110_1), ((HB.out.cell (World.block_lt_of_cell? w _ hw110_2)).trans hw110_2), ((HB.out.cell (World.block_lt_of_cell? w _ hw110_3)).trans hw110_3), ((HB.out.cell (World.block_lt_of_cell? w _ hw110_4)).trans hw110_4), ((HB.out.cell (World.block_lt_of_cell? w _ hw110_5)).trans hw110_5), ((HB.out.cell (World.block_lt_of_cell? w _ hw110_6)).trans hw110_6), ((HB.out.cell (World.block_lt_of_cell? w _ hw110_7)).trans hw110_7), ((HB.out.cell (World.block_lt_of_cell? w _ hw111_0)).trans hw111_0), ((HB.out.cell (World.block_lt_of_cell? w _ hw111_1)).trans hw111_1), ((HB.out.cell (World.block_lt_of_cell? w _ hw111_2)).trans hw111_2), ((HB.out.cell (World.block_lt_of_cell? w _ hw111_3)).trans hw111_3), ((HB.out.cell (World.block_lt_of_cell? w _ hw111_4)).trans hw111_4), ((HB.out.cell (World.block_lt_of_cell? w _ hw111_5)).trans hw111_5), ((HB.out.cell (World.block_lt_of_cell? w _ hw111_6)).trans hw111_6), ((HB.out.cell (World.block_lt_of_cell? w _ hw111_7)).trans hw111_7)⟩ (fun hHeld => ?_)
                      clear hK K
                      refine norm_ (a' := ?_) ?_ ?_
                      rotate_left
                      · show Act.put _ (some 72) _ = _
                        simp only [Act.put, List.setIfInBounds_toArray, List.set_cons_zero, List.set_cons_succ, i64_w, i32_w]
                        rfl
                      refine pure_ (i := 11) (N := some 11) (v := ?_) (a' := ?_) #[true, true, true, true, true, true, true, true, true, true, true, true] rfl rfl (any_of HT_.out (by kernel_rfl)) (fun _ _ _ h => h) (Or.inl ⟨by rfl, ?_⟩) ?_ ?_
                      rotate_left
                      · intro w'
                        go_simp
                        with_reducible rfl
                      rotate_left
                      · simp only [Act.put, List.setIfInBounds_toArray, List.set_cons_zero, List.set_cons_succ, i64_w, i32_w]
                        rfl
                      refine done_ (done_of HT_.out (by kernel_rfl)) ?_
                      try go_wp2
                      go_ret
                      exact ⟨by first | rfl | (simp [errW_none, errW_some] <;> rfl) | (simp [*, errW_none, errW_some] <;> rfl), by repeat (first | (with_reducible first | exact HB.out | apply below_alloc | apply pw_below_drewN | apply below_drew1) | exact HB.out)⟩
                  · replace c30 := Bool.eq_false_iff.mpr c30
                    subst c30
                    have H1 : (some (decide ((t105.length : Int) < (l0.length : Int)))) = some r := by rw [if_neg (show ¬ (false = true) by decide)] at H; exact H
                    clear H
                    have H := H1
                    clear H1
                    obtain rfl := Option.some.inj H
                    have p104 : 0 ≤ (a1 : Int) := of_decide_eq_true (by first | (with_reducible assumption) | assumption)
                    have q104 : a1 < (l0.length : Int) := of_decide_eq_true (by first | (with_reducible assumption) | assumption)
                    obtain ⟨ad104, e104, hx104_0, hx104_1, hx104_2, hx104_3, hx104_4, hx104_5, hx104_6, hx104_7⟩ := at_T23 HR0.out a1 p104 q104
                    cases e104
                    replace hx104_0 := (HB.out.cell (World.block_lt_of_cell? w _ hx104_0)).trans hx104_0
                    replace hx104_1 := (HB.out.cell (World.block_lt_of_cell? w _ hx104_1)).trans hx104_1
                    replace hx104_2 := (HB.out.cell (World.block_lt_of_cell? w _ hx104_2)).trans hx104_2
                    replace hx104_3 := (HB.out.cell (World.block_lt_of_cell? w _ hx104_3)).trans hx104_3
                    replace hx104_4 := (HB.out.cell (World.block_lt_of_cell? w _ hx104_4)).trans hx104_4
                    replace hx104_5 := (HB.out.cell (World.block_lt_of_cell? w _ hx104_5)).trans hx104_5
                    replace hx104_6 := (HB.out.cell (World.block_lt_of_cell? w _ hx104_6)).trans hx104_6
                    replace hx104_7 := (HB.out.cell (World.block_lt_of_cell? w _ hx104_7)).trans hx104_7
                    replace p104 := eq_true p104
                    replace q104 := eq_true q104
                    try go_wp2_with (first | ((with_reducible refine gate_callee (f := 21) rfl ?_); refine goesL_ (some 53) rfl rfl Try.func21 (by kernel_rfl) rfl #[.slice (some ad104) l0.length c0, .string ((rd_T23 l0 a1).f0)] rfl (by (try simp only [List.map_toArray, List.map_cons, List.map_nil]); first | done | rfl | (simp only [List.length_drop, List.length_take]; rfl)) ?_; (with_reducible refine (tree_Under.calls _ _ l0 ((rd_T23 l0 a1).f0) t105 _ ?side1 ?side2 A24.out).mono ?_); (case side1 => repeat (first | exact (Kd.C_below HR0.out HB.out) | (with_reducible refine Kd.C_alloc ?_ _) | (with_reducible refine Kd.C_drewN ?_ _) | (with_reducible refine Kd.C_drew ?_))); (case side2 => exact HC0.out); rintro e w48 ⟨v106, rfl, ho0, hb⟩; refine ⟨_, rfl, ?_⟩; have n0_ := Aside0.mk (Kd.R_lower ho0 (below_size (by repeat (first | (with_reducible first | exact HB.out | apply below_alloc | apply pw_below_drewN | apply below_drew1) | exact HB.out)))); have n1_ := Aside0.mk (below_step (by repeat (first | (with_reducible first | exact HB.out | apply below_alloc | apply pw_below_drewN | apply below_drew1) | exact HB.out)) hb); clear HB; have HO107 := n0_; have HB := n1_; clear n0_ n1_; (try clear hb); (try clear hb2); (try clear hk); (try clear hi); (try clear ho0); have p108 : 0 ≤ (a2 : Int) := of_decide_eq_true (by first | (with_reducible assumption) | assumption); have q108 : a2 < (l0.length : Int) := of_decide_eq_true (by first | (with_reducible assumption) | assumption); obtain ⟨ad108, e108, hx108_0, hx108_1, hx108_2, hx108_3, hx108_4, hx108_5, hx108_6, hx108_7⟩ := at_T23 HR0.out a2 p108 q108; obtain rfl : ad104 = ad108 := (by injection e108); replace hx108_0 := (HB.out.cell (World.block_lt_of_cell? w _ hx108_0)).trans hx108_0; replace hx108_1 := (HB.out.cell (World.block_lt_of_cell? w _ hx108_1)).trans hx108_1; replace hx108_2 := (HB.out.cell (World.block_lt_of_cell? w _ hx108_2)).trans hx108_2; replace hx108_3 := (HB.out.cell (World.block_lt_of_cell? w _ hx108_3)).trans hx108_3; replace hx108_4 := (HB.out.cell (World.block_lt_of_cell? w _ hx108_4)).trans hx108_4; replace hx108_5 := (HB.out.cell (World.block_lt_of_cell? w _ hx108_5)).trans hx108_5; replace hx108_6 := (HB.out.cell (World.block_lt_of_cell? w _ hx108_6)).trans hx108_6; replace hx108_7 := (HB.out.cell (World.block_lt_of_cell? w _ hx108_7)).trans hx108_7; replace p108 := eq_true p108; replace q108 := eq_true q108; obtain ⟨Ao49, co49, eo49⟩ := Kd.R_slice HO107.out; subst eo49) | ((with_reducible refine gate_callee (f := 26) rfl ?_); refine goesL_ (some 60) rfl rfl Try.func26 (by kernel_rfl) rfl #[.slice Ao49 t105.length co49, .string ((rd_T23 l0 a2).f0)] rfl (by (try simp only [List.map_toArray, List.map_cons, List.map_nil]); first | done | rfl | (simp only [List.length_drop, List.length_take]; rfl)) ?_; (with_reducible refine (tree_Find.calls _ _ t105 ((rd_T23 l0 a2).f0) t109 _ ?side1 ?side2 A27.out).mono ?_); (case side1 => repeat (first | exact (Kd.R_reads' HO107.out).2.2 | (with_reducible refine Kd.C_alloc ?_ _) | (with_reducible refine Kd.C_drewN ?_ _) | (with_reducible refine Kd.C_drew ?_))); (case side2 => exact (Kd.R_reads' HO107.out).2.1); rintro e w50 ⟨rfl, hb⟩; refine ⟨_, rfl, ?_⟩; have n0_ := Aside0.mk (Kd.R_below (by (with_reducible repeat (first | apply Kd.R_alloc | apply Kd.R_drewN | apply Kd.R_drew)); exact HO107.out) hb); have n1_ := Aside0.mk (below_step (by repeat (first | (with_reducible first | exact HB.out | apply below_alloc | apply pw_below_drewN | apply below_drew1) | exact HB.out)) hb); clear HO107; clear HB; have HO107 := n0_; have HB := n1_; clear n0_ n1_; (try clear hb); (try clear hb2); (try clear hk); (try clear hi)))
                    have n0_ := Aside0.mk (Kd.R_drew HO107.out)
                    have n1_ := Aside0.mk (below_drew1 HB.out)
                    clear HO107
                    clear HB
                    have HO107 := n0_
                    have HB := n1_
                    clear n0_ n1_
                    have p110 : 0 ≤ (a2 : Int) := of_decide_eq_true (by first | (with_reducible assumption) | assumption)
                    have q110 : a2 < (l0.length : Int) := of_decide_eq_true (by first | (with_reducible assumption) | assumption)
                    obtain ⟨ad110, e110, hx110_0, hx110_1, hx110_2, hx110_3, hx110_4, hx110_5, hx110_6, hx110_7⟩ := at_T23 HR0.out a2 p110 q110
                    have hw110_7 := hx110_7
                    have hw110_6 := hx110_6
                    have hw110_5 := hx110_5
                    have hw110_4 := hx110_4
                    have hw110_3 := hx110_3
                    have hw110_2 := hx110_2
                    have hw110_1 := hx110_1
                    have hw110_0 := hx110_0
                    obtain rfl : ad104 = ad110 := (by injection e110)
                    replace hx110_0 := (HB.out.cell (World.block_lt_of_cell? w _ hx110_0)).trans hx110_0
                    replace hx110_1 := (HB.out.cell (World.block_lt_of_cell? w _ hx110_1)).trans hx110_1
                    replace hx110_2 := (HB.out.cell (World.block_lt_of_cell? w _ hx110_2)).trans hx110_2
                    replace hx110_3 := (HB.out.cell (World.block_lt_of_cell? w _ hx110_3)).trans hx110_3
                    replace hx110_4 := (HB.out.cell (World.block_lt_of_cell? w _ hx110_4)).trans hx110_4
                    replace hx110_5 := (HB.out.cell (World.block_lt_of_cell? w _ hx110_5)).trans hx110_5
                    replace hx110_6 := (HB.out.cell (World.block_lt_of_cell? w _ hx110_6)).trans hx110_6
                    replace hx110_7 := (HB.out.cell (World.block_lt_of_cell? w _ hx110_7)).trans hx110_7
                    replace p110 := eq_true p110
                    replace q110 := eq_true q110
                    have p111 : 0 ≤ (a1 : Int) := of_decide_eq_true (by first | (with_reducible assumption) | assumption)
                    have q111 : a1 < (l0.length : Int) := of_decide_eq_true (by first | (with_reducible assumption) | assumption)
                    obtain ⟨ad111, e111, hx111_0, hx111_1, hx111_2, hx111_3, hx111_4, hx111_5, hx111_6, hx111_7⟩ := at_T23 HR0.out a1 p111 q111
                    have hw111_7 := hx111_7
                    have hw111_6 := hx111_6
                    have hw111_5 := hx111_5
                    have hw111_4 := hx111_4
                    have hw111_3 := hx111_3
                    have hw111_2 := hx111_2
                    have hw111_1 := hx111_1
                    have hw111_0 := hx111_0
                    obtain rfl : ad104 = ad111 := (by injection e111)
                    replace hx111_0 := (HB.out.cell (World.block_lt_of_cell? w _ hx111_0)).trans hx111_0
                    replace hx111_1 := (HB.out.cell (World.block_lt_of_cell? w _ hx111_1)).trans hx111_1
                    replace hx111_2 := (HB.out.cell (World.block_lt_of_cell? w _ hx111_2)).trans hx111_2
                    replace hx111_3 := (HB.out.cell (World.block_lt_of_cell? w _ hx111_3)).trans hx111_3
                    replace hx111_4 := (HB.out.cell (World.block_lt_of_cell? w _ hx111_4)).trans hx111_4
                    replace hx111_5 := (HB.out.cell (World.block_lt_of_cell? w _ hx111_5)).trans hx111_5
                    replace hx111_6 := (HB.out.cell (World.block_lt_of_cell? w _ hx111_6)).trans hx111_6
                    replace hx111_7 := (HB.out.cell (World.block_lt_of_cell? w _ hx111_7)).trans hx111_7
                    replace p111 := eq_true p111
                    replace q111 := eq_true q111
                    refine start_ (n := 12) (S := fun w' => w'.cell? (ad104.add ((a2).toNat * 8)) = some (.string ((rd_T23 l0 a2).f0)) ∧ w'.cell? ⟨(ad104.add ((a2).toNat * 8)).block, (ad104.add ((a2).toNat * 8)).off + 1, none⟩ = some (.string ((rd_T23 l0 a2).f1)) ∧ w'.cell? ⟨(ad104.add ((a2).toNat * 8)).block, (ad104.add ((a2).toNat * 8)).off + 2, none⟩ = some (.int .u8 ((rd_T23 l0 a2).f2)) ∧ w'.cell? ⟨(ad104.add ((a2).toNat * 8)).block, (ad104.add ((a2).toNat * 8)).off + 3, none⟩ = some (.int .i64 ((rd_T23 l0 a2).f3)) ∧ w'.cell? ⟨(ad104.add ((a2).toNat * 8)).block, (ad104.add ((a2).toNat * 8)).off + 4, none⟩ = some (.int .i64 ((rd_T23 l0 a2).f4)) ∧ w'.cell? ⟨(ad104.add ((a2).toNat * 8)).block, (ad104.add ((a2).toNat * 8)).off + 5, none⟩ = some (.int .i64 ((rd_T23 l0 a2).f5)) ∧ w'.cell? ⟨(ad104.add ((a2).toNat * 8)).block, (ad104.add ((a2).toNat * 8)).off + 6, none⟩ = some (.int .i64 ((rd_T23 l0 a2).f6)) ∧ w'.cell? ⟨(ad104.add ((a2).toNat * 8)).block, (ad104.add ((a2).toNat * 8)).off + 7, none⟩ = some (.string ((rd_T23 l0 a2).f7)) ∧ w'.cell? (ad104.add ((a1).toNat * 8)) = some (.string ((rd_T23 l0 a1).f0)) ∧ w'.cell? ⟨(ad104.add ((a1).toNat * 8)).block, (ad104.add ((a1).toNat * 8)).off + 1, none⟩ = some (.string ((rd_T23 l0 a1).f1)) ∧ w'.cell? ⟨(ad104.add ((a1).toNat * 8)).block, (ad104.add ((a1).toNat * 8)).off + 2, none⟩ = some (.int .u8 ((rd_T23 l0 a1).f2)) ∧ w'.cell? ⟨(ad104.add ((a1).toNat * 8)).block, (ad104.add ((a1).toNat * 8)).off + 3, none⟩ = some (.int .i64 ((rd_T23 l0 a1).f3)) ∧ w'.cell? ⟨(ad104.add ((a1).toNat * 8)).block, (ad104.add ((a1).toNat * 8)).off + 4, none⟩ = some (.int .i64 ((rd_T23 l0 a1).f4)) ∧ w'.cell? ⟨(ad104.add ((a1).toNat * 8)).block, (ad104.add ((a1).toNat * 8)).off + 5, none⟩ = some (.int .i64 ((rd_T23 l0 a1).f5)) ∧ w'.cell? ⟨(ad104.add ((a1).toNat * 8)).block, (ad104.add ((a1).toNat * 8)).off + 6, none⟩ = some (.int .i64 ((rd_T23 l0 a1).f6)) ∧ w'.cell? ⟨(ad104.add ((a1).toNat * 8)).block, (ad104.add ((a1).toNat * 8)).off + 7, none⟩ = some (.string ((rd_T23 l0 a1).f7))) (ds := []) #[false, false, false, false, false, false, false, false, false, false, false, false] (by kernel_rfl) rfl rfl ⟨((HB.out.cell (World.block_lt_of_cell? w _ hw110_0)).trans hw110_0), ((HB.out.cell (World.block_lt_of_cell? w _ hw110_1)).trans hw110_1), ((HB.out.cell (World.block_lt_of_cell? w _ hw110_2)).trans hw110_2), ((HB.out.cell (World.block_lt_of_cell? w _ hw110_3)).trans hw110_3), ((HB.out.cell (World.block_lt_of_cell? w _ hw110_4)).trans hw110_4), ((HB.out.cell (World.block_lt_of_cell? w _ hw110_5)).trans hw110_5), ((HB.out.cell (World.block_lt_of_cell? w _ hw110_6)).trans hw110_6), ((HB.out.cell (World.block_lt_of_cell? w _ hw110_7)).trans hw110_7), ((HB.out.cell (World.block_lt_of_cell? w _ hw111_0)).trans hw111_0), ((HB.out.cell (World.block_lt_of_cell? w _ hw111_1)).trans hw111_1), ((HB.out.cell (World.block_lt_of_cell? w _ hw111_2)).trans hw111_2), ((HB.out.cell (World.block_lt_of_cell? w _ hw111_3)).trans hw111_3), ((HB.out.cell (World.block_lt_of_cell? w _ hw111_4)).trans hw111_4), ((HB.out.cell (World.block_lt_of_cell? w _ hw111_5)).trans hw111_5), ((HB.out.cell (World.block_lt_of_cell? w _ hw111_6)).trans hw111_6), ((HB.out.cell (World.block_lt_of_cell? w _ hw111_7)).trans hw111_7)⟩ (fun hHeld => ?_); refine with_tabW reelkeeperlaw06_TreeUnder.tab7 reelkeeperlaw06_TreeUnder.bits7 (fun HT_ HW_ => ?_)
                    generalize w50.drew = w51 at HO107 HB hx110_0 hx110_1 hx110_2 hx110_3 hx110_4 hx110_5 hx110_6 hx110_7 hx111_0 hx111_1 hx111_2 hx111_3 hx111_4 hx111_5 hx111_6 hx111_7 hHeld ⊢
                    refine pure_ (i := 0) (N := some 62) (v := ?_) (a' := ?_) #[true, false, false, false, false, false, false, false, false, false, false, false] rfl rfl (any_of HT_.out (by kernel_rfl)) (fun _ _ _ h => h) (Or.inl ⟨by rfl, ?_⟩) ?_ ?_
                    rotate_left
                    · intro w'
                      go_simp
                      with_reducible rfl
                    rotate_left
                    · simp only [Act.put, List.setIfInBounds_toArray, List.set_cons_zero, List.set_cons_succ, i64_w, i32_w]
                      rfl
                    refine pure_ (i := 1) (N := some 63) (v := ?_) (a' := ?_) #[true, true, false, false, false, false, false, false, false, false, false, false] rfl rfl (any_of HT_.out (by kernel_rfl)) (fun _ _ _ h => h) (Or.inl ⟨by rfl, ?_⟩) ?_ ?_
                    rotate_left
                    · intro w'
                      go_simp
                      with_reducible rfl
                    rotate_left
                    · simp only [Act.put, List.setIfInBounds_toArray, List.set_cons_zero, List.set_cons_succ, i64_w, i32_w]
                      rfl
                    refine pure_ (i := 2) (N := some 64) (v := ?_) (a' := ?_) #[true, true, true, false, false, false, false, false, false, false, false, false] rfl rfl (any_of HT_.out (by kernel_rfl)) (fun _ _ _ h => h) (Or.inl ⟨by rfl, ?_⟩) ?_ ?_
                    rotate_left
                    · intro w'
                      go_simp
                      with_reducible rfl
                    rotate_left
                    · simp only [Act.put, List.setIfInBounds_toArray, List.set_cons_zero, List.set_cons_succ, i64_w, i32_w]
                      rfl
                    refine pure_ (i := 3) (N := some 65) (v := ?_) (a' := ?_) #[true, true, true, true, false, false, false, false, false, false, false, false] rfl rfl (any_of HT_.out (by kernel_rfl)) (fun _ _ _ h => h) (Or.inl ⟨by rfl, ?_⟩) ?_ ?_
                    rotate_left
                    · intro w'
                      go_simp
                      with_reducible rfl
                    rotate_left
                    · simp only [Act.put, List.setIfInBounds_toArray, List.set_cons_zero, List.set_cons_succ, i64_w, i32_w]
                      rfl
                    refine pure_ (i := 5) (N := some 67) (v := ?_) (a' := ?_) #[true, true, true, true, false, true, false, false, false, false, false, false] rfl rfl (any_of HT_.out (by kernel_rfl)) (fun _ _ _ h => h) (Or.inl ⟨by rfl, ?_⟩) ?_ ?_
                    rotate_left
                    · intro w'
                      go_simp
                      with_reducible rfl
                    rotate_left
                    · simp only [Act.put, List.setIfInBounds_toArray, List.set_cons_zero, List.set_cons_succ, i64_w, i32_w]
                      rfl
                    refine pure_ (i := 6) (N := some 68) (v := ?_) (a' := ?_) #[true, true, true, true, false, true, true, false, false, false, false, false] rfl rfl (any_of HT_.out (by kernel_rfl)) (fun _ _ _ h => h) (Or.inl ⟨by rfl, ?_⟩) ?_ ?_
                    rotate_left
                    · intro w'
                      go_simp
                      with_reducible rfl
                    rotate_left
                    · simp only [Act.put, List.setIfInBounds_toArray, List.set_cons_zero, List.set_cons_succ, i64_w, i32_w]
                      rfl
                    refine pure_ (i := 7) (N := some 69) (v := ?_) (a' := ?_) #[true, true, true, true, false, true, true, true, false, false, false, false] rfl rfl (any_of HT_.out (by kernel_rfl)) (fun _ _ _ h => h) (Or.inl ⟨by rfl, ?_⟩) ?_ ?_
                    rotate_left
                    · intro w'
                      go_simp
                      with_reducible rfl
                    rotate_left
                    · simp only [Act.put, List.setIfInBounds_toArray, List.set_cons_zero, List.set_cons_succ, i64_w, i32_w]
                      rfl
                    refine pure_ (i := 8) (N := some 70) (v := ?_) (a' := ?_) #[true, true, true, true, false, true, true, true, true, false, false, false] rfl rfl (any_of HT_.out (by kernel_rfl)) (fun _ _ _ h => h) (Or.inl ⟨by rfl, ?_⟩) ?_ ?_
                    rotate_left
                    · intro w'
                      go_simp
                      with_reducible rfl
                    rotate_left
                    · simp only [Act.put, List.setIfInBounds_toArray, List.set_cons_zero, List.set_cons_succ, i64_w, i32_w]
                      rfl
                    refine take_ (i := 4) (N := some 66) (v := ?_) (a' := ?_) #[true, true, true, true, true, true, true, true, true, false, false, false] rfl rfl (take_ofW HT_.out HW_.out (by kernel_rfl)) (fun _ _ _ h => h) (Or.inl ⟨by rfl, ?_⟩) hHeld ?_ ?_
                    rotate_left
                    · rintro w' ⟨s0, s1, s2, s3, s4, s5, s6, s7, s8, s9, s10, s11, s12, s13, s14, s15⟩
                      go_simp
                      with_reducible rfl
                    rotate_left
                    · simp only [Act.put, List.setIfInBounds_toArray, List.set_cons_zero, List.set_cons_succ, i64_w, i32_w]
                      rfl
                    refine take_ (i := 9) (N := some 71) (v := ?_) (a' := ?_) #[true, true, true, true, true, true, true, true, true, true, false, false] rfl rfl (take_ofW HT_.out HW_.out (by kernel_rfl)) (fun _ _ _ h => h) (Or.inl ⟨by rfl, ?_⟩) hHeld ?_ ?_
                    rotate_left
                    · rintro w' ⟨s0, s1, s2, s3, s4, s5, s6, s7, s8, s9, s10, s11, s12, s13, s14, s15⟩
                      go_simp
                      with_reducible rfl
                    rotate_left
                    · simp only [Act.put, List.setIfInBounds_toArray, List.set_cons_zero, List.set_cons_succ, i64_w, i32_w]
                      rfl
                    refine one_ (i := 10) (N := some 72) #[true, true, true, true, true, true, true, true, true, true, true, false] rfl rfl (one_of HT_.out (by kernel_rfl)) (by decide) (fun K hK => ?_)
                    refine goes_ Try.func28 (by kernel_rfl) rfl #[.string ((rd_T23 l0 a2).f0), .string ((rd_T23 l0 a1).f0)] (by rfl) rfl rfl (by (try simp only [List.map_toArray, List.map_cons, List.map_nil]); first | done | rfl | (simp only [List.length_drop, List.length_take]; rfl)) ?_
                    with_reducible refine (path_Below.calls ((rd_T23 l0 a2).f0) ((rd_T23 l0 a1).f0) false _ A28.out).mono ?_
                    rintro e w52 ⟨rfl, hb⟩
                    refine ⟨_, rfl, ?_⟩
                    have n0_ := Aside0.mk (Kd.R_below (by (with_reducible repeat (first | apply Kd.R_alloc | apply Kd.R_drewN | apply Kd.R_drew)); exact HO107.out) hb)
                    have n1_ := Aside0.mk (below_step (by repeat (first | (with_reducible first | exact HB.out | apply below_alloc | apply pw_below_drewN | apply below_drew1) | exact HB.out)) hb)
                    clear HO107
                    clear HB
                    have HO107 := n0_
                    have HB := n1_
                    clear n0_ n1_
                    (try clear hb)
                    (try clear hb2)
                    (try clear hk)
                    (try clear hi)
                    refine hK.out _ _ ⟨((HB.out.cell (World.block_lt_of_cell? w _ hw110_0)).trans hw110_0), ((HB.out.cell (World.block_lt_of_cell? w _ hw110_1)).trans hw110_1), ((HB.out.cell (World.block_lt_of_cell? w _ hw110_2)).trans hw110_2), ((HB.out.cell (World.block_lt_of_cell? w _ hw110_3)).trans hw110_3), ((HB.out.cell (World.block_lt_of_cell? w _ hw110_4)).trans hw110_4), ((HB.out.cell (World.block_lt_of_cell? w _ hw110_5)).trans hw110_5), ((HB.out.cell (World.block_lt_of_cell? w _ hw110_6)).trans hw110_6), ((HB.out.cell (World.block_lt_of_cell? w _ hw110_7)).trans hw110_7), ((HB.out.cell (World.block_lt_of_cell? w _ hw111_0)).trans hw111_0), ((HB.out.cell (World.block_lt_of_cell? w _ hw111_1)).trans hw111_1), ((HB.out.cell (World.block_lt_of_cell? w _ hw111_2)).trans hw111_2), ((HB.out.cell (World.block_lt_of_cell? w _ hw111_3)).trans hw111_3), ((HB.out.cell (World.block_lt_of_cell? w _ hw111_4)).trans hw111_4), ((HB.out.cell (World.block_lt_of_cell? w _ hw111_5)).trans hw111_5), ((HB.out.cell (World.block_lt_of_cell? w _ hw111_6)).trans hw111_6), ((HB.out.cell (World.block_lt_of_cell? w _ hw111_7)).trans hw111_7)⟩ (fun hHeld => ?_)
                    clear hK K
                    refine norm_ (a' := ?_) ?_ ?_
                    rotate_left
                    · show Act.put _ (some 72) _ = _
                      simp only [Act.put, List.setIfInBounds_toArray, List.set_cons_zero, List.set_cons_succ, i64_w, i32_w]
                      rfl
                    refine pure_ (i := 11) (N := some 11) (v := ?_) (a' := ?_) #[true, true, true, true, true, true, true, true, true, true, true, true] rfl rfl (any_of HT_.out (by kernel_rfl)) (fun _ _ _ h => h) (Or.inl ⟨by rfl, ?_⟩) ?_ ?_
                    rotate_left
                    · intro w'
                      go_simp
                      with_reducible rfl
                    rotate_left
                    · simp only [Act.put, List.setIfInBounds_toArray, List.set_cons_zero, List.set_cons_succ, i64_w, i32_w]
                      rfl
                    refine done_ (done_of HT_.out (by kernel_rfl)) ?_
                    try go_wp2
                    go_ret
                    exact ⟨by first | rfl | (simp [errW_none, errW_some] <;> rfl) | (simp [*, errW_none, errW_some] <;> rfl), by repeat (first | (with_reducible first | exact HB.out | apply below_alloc | apply pw_below_drewN | apply below_drew1) | exact HB.out)⟩
                · rw [if_neg c29] at H
                  have c29b0 : ((decide (t109 ≥ 0)) == t112) = false := by simpa using c29
                  (try (have c29b1 : decide ((decide (t109 ≥ 0)) = t112) = false := by simpa using c29))
                  (try (have c29b2 : ((decide (t109 ≥ 0)) == t112) = false := by simpa using c29))
                  (try (have c29b3 : ¬ ((decide (t109 ≥ 0)) = t112) := by simpa using c29))
                  clear c29
                  obtain rfl := Option.some.inj H
                  have p104 : 0 ≤ (a1 : Int) := of_decide_eq_true (by first | (with_reducible assumption) | assumption)
                  have q104 : a1 < (l0.length : Int) := of_decide_eq_true (by first | (with_reducible assumption) | assumption)
                  obtain ⟨ad104, e104, hx104_0, hx104_1, hx104_2, hx104_3, hx104_4, hx104_5, hx104_6, hx104_7⟩ := at_T23 HR0.out a1 p104 q104
                  cases e104
                  replace hx104_0 := (HB.out.cell (World.block_lt_of_cell? w _ hx104_0)).trans hx104_0
                  replace hx104_1 := (HB.out.cell (World.block_lt_of_cell? w _ hx104_1)).trans hx104_1
                  replace hx104_2 := (HB.out.cell (World.block_lt_of_cell? w _ hx104_2)).trans hx104_2
                  replace hx104_3 := (HB.out.cell (World.block_lt_of_cell? w _ hx104_3)).trans hx104_3
                  replace hx104_4 := (HB.out.cell (World.block_lt_of_cell? w _ hx104_4)).trans hx104_4
                  replace hx104_5 := (HB.out.cell (World.block_lt_of_cell? w _ hx104_5)).trans hx104_5
                  replace hx104_6 := (HB.out.cell (World.block_lt_of_cell? w _ hx104_6)).trans hx104_6
                  replace hx104_7 := (HB.out.cell (World.block_lt_of_cell? w _ hx104_7)).trans hx104_7
                  replace p104 := eq_true p104
                  replace q104 := eq_true q104
                  try go_wp2_with (first | ((with_reducible refine gate_callee (f := 21) rfl ?_); refine goesL_ (some 53) rfl rfl Try.func21 (by kernel_rfl) rfl #[.slice (some ad104) l0.length c0, .string ((rd_T23 l0 a1).f0)] rfl (by (try simp only [List.map_toArray, List.map_cons, List.map_nil]); first | done | rfl | (simp only [List.length_drop, List.length_take]; rfl)) ?_; (with_reducible refine (tree_Under.calls _ _ l0 ((rd_T23 l0 a1).f0) t105 _ ?side1 ?side2 A24.out).mono ?_); (case side1 => repeat (first | exact (Kd.C_below HR0.out HB.out) | (with_reducible refine Kd.C_alloc ?_ _) | (with_reducible refine Kd.C_drewN ?_ _) | (with_reducible refine Kd.C_drew ?_))); (case side2 => exact HC0.out); rintro e w53 ⟨v106, rfl, ho0, hb⟩; refine ⟨_, rfl, ?_⟩; have n0_ := Aside0.mk (Kd.R_lower ho0 (below_size (by repeat (first | (with_reducible first | exact HB.out | apply below_alloc | apply pw_below_drewN | apply below_drew1) | exact HB.out)))); have n1_ := Aside0.mk (below_step (by repeat (first | (with_reducible first | exact HB.out | apply below_alloc | apply pw_below_drewN | apply below_drew1) | exact HB.out)) hb); clear HB; have HO107 := n0_; have HB := n1_; clear n0_ n1_; (try clear hb); (try clear hb2); (try clear hk); (try clear hi); (try clear ho0); have p108 : 0 ≤ (a2 : Int) := of_decide_eq_true (by first | (with_reducible assumption) | assumption); have q108 : a2 < (l0.length : Int) := of_decide_eq_true (by first | (with_reducible assumption) | assumption); obtain ⟨ad108, e108, hx108_0, hx108_1, hx108_2, hx108_3, hx108_4, hx108_5, hx108_6, hx108_7⟩ := at_T23 HR0.out a2 p108 q108; obtain rfl : ad104 = ad108 := (by injection e108); replace hx108_0 := (HB.out.cell (World.block_lt_of_cell? w _ hx108_0)).trans hx108_0; replace hx108_1 := (HB.out.cell (World.block_lt_of_cell? w _ hx108_1)).trans hx108_1; replace hx108_2 := (HB.out.cell (World.block_lt_of_cell? w _ hx108_2)).trans hx108_2; replace hx108_3 := (HB.out.cell (World.block_lt_of_cell? w _ hx108_3)).trans hx108_3; replace hx108_4 := (HB.out.cell (World.block_lt_of_cell? w _ hx108_4)).trans hx108_4; replace hx108_5 := (HB.out.cell (World.block_lt_of_cell? w _ hx108_5)).trans hx108_5; replace hx108_6 := (HB.out.cell (World.block_lt_of_cell? w _ hx108_6)).trans hx108_6; replace hx108_7 := (HB.out.cell (World.block_lt_of_cell? w _ hx108_7)).trans hx108_7; replace p108 := eq_true p108; replace q108 := eq_true q108; obtain ⟨Ao54, co54, eo54⟩ := Kd.R_slice HO107.out; subst eo54) | ((with_reducible refine gate_callee (f := 26) rfl ?_); refine goesL_ (some 60) rfl rfl Try.func26 (by kernel_rfl) rfl #[.slice Ao54 t105.length co54, .string ((rd_T23 l0 a2).f0)] rfl (by (try simp only [List.map_toArray, List.map_cons, List.map_nil]); first | done | rfl | (simp only [List.length_drop, List.length_take]; rfl)) ?_; (with_reducible refine (tree_Find.calls _ _ t105 ((rd_T23 l0 a2).f0) t109 _ ?side1 ?side2 A27.out).mono ?_); (case side1 => repeat (first | exact (Kd.R_reads' HO107.out).2.2 | (with_reducible refine Kd.C_alloc ?_ _) | (with_reducible refine Kd.C_drewN ?_ _) | (with_reducible refine Kd.C_drew ?_))); (case side2 => exact (Kd.R_reads' HO107.out).2.1); rintro e w55 ⟨rfl, hb⟩; refine ⟨_, rfl, ?_⟩; have n0_ := Aside0.mk (Kd.R_below (by (with_reducible repeat (first | apply Kd.R_alloc | apply Kd.R_drewN | apply Kd.R_drew)); exact HO107.out) hb); have n1_ := Aside0.mk (below_step (by repeat (first | (with_reducible first | exact HB.out | apply below_alloc | apply pw_below_drewN | apply below_drew1) | exact HB.out)) hb); clear HO107; clear HB; have HO107 := n0_; have HB := n1_; clear n0_ n1_; (try clear hb); (try clear hb2); (try clear hk); (try clear hi)))
                  have n0_ := Aside0.mk (Kd.R_drew HO107.out)
                  have n1_ := Aside0.mk (below_drew1 HB.out)
                  clear HO107
                  clear HB
                  have HO107 := n0_
                  have HB := n1_
                  clear n0_ n1_
                  have p110 : 0 ≤ (a2 : Int) := of_decide_eq_true (by first | (with_reducible assumption) | assumption)
                  have q110 : a2 < (l0.length : Int) := of_decide_eq_true (by first | (with_reducible assumption) | assumption)
                  obtain ⟨ad110, e110, hx110_0, hx110_1, hx110_2, hx110_3, hx110_4, hx110_5, hx110_6, hx110_7⟩ := at_T23 HR0.out a2 p110 q110
                  have hw110_7 := hx110_7
                  have hw110_6 := hx110_6
                  have hw110_5 := hx110_5
                  have hw110_4 := hx110_4
                  have hw110_3 := hx110_3
                  have hw110_2 := hx110_2
                  have hw110_1 := hx110_1
                  have hw110_0 := hx110_0
                  obtain rfl : ad104 = ad110 := (by injection e110)
                  replace hx110_0 := (HB.out.cell (World.block_lt_of_cell? w _ hx110_0)).trans hx110_0
                  replace hx110_1 := (HB.out.cell (World.block_lt_of_cell? w _ hx110_1)).trans hx110_1
                  replace hx110_2 := (HB.out.cell (World.block_lt_of_cell? w _ hx110_2)).trans hx110_2
                  replace hx110_3 := (HB.out.cell (World.block_lt_of_cell? w _ hx110_3)).trans hx110_3
                  replace hx110_4 := (HB.out.cell (World.block_lt_of_cell? w _ hx110_4)).trans hx110_4
                  replace hx110_5 := (HB.out.cell (World.block_lt_of_cell? w _ hx110_5)).trans hx110_5
                  replace hx110_6 := (HB.out.cell (World.block_lt_of_cell? w _ hx110_6)).trans hx110_6
                  replace hx110_7 := (HB.out.cell (World.block_lt_of_cell? w _ hx110_7)).trans hx110_7
                  replace p110 := eq_true p110
                  replace q110 := eq_true q110
                  have p111 : 0 ≤ (a1 : Int) := of_decide_eq_true (by first | (with_reducible assumption) | assumption)
                  have q111 : a1 < (l0.length : Int) := of_decide_eq_true (by first | (with_reducible assumption) | assumption)
                  obtain ⟨ad111, e111, hx111_0, hx111_1, hx111_2, hx111_3, hx111_4, hx111_5, hx111_6, hx111_7⟩ := at_T23 HR0.out a1 p111 q111
                  have hw111_7 := hx111_7
                  have hw111_6 := hx111_6
                  have hw111_5 := hx111_5
                  have hw111_4 := hx111_4
                  have hw111_3 := hx111_3
                  have hw111_2 := hx111_2
                  have hw111_1 := hx111_1
                  have hw111_0 := hx111_0
                  obtain rfl : ad104 = ad111 := (by injection e111)
                  replace hx111_0 := (HB.out.cell (World.block_lt_of_cell? w _ hx111_0)).trans hx111_0
                  replace hx111_1 := (HB.out.cell (World.block_lt_of_cell? w _ hx111_1)).trans hx111_1
                  replace hx111_2 := (HB.out.cell (World.block_lt_of_cell? w _ hx111_2)).trans hx111_2
                  replace hx111_3 := (HB.out.cell (World.block_lt_of_cell? w _ hx111_3)).trans hx111_3
                  replace hx111_4 := (HB.out.cell (World.block_lt_of_cell? w _ hx111_4)).trans hx111_4
                  replace hx111_5 := (HB.out.cell (World.block_lt_of_cell? w _ hx111_5)).trans hx111_5
                  replace hx111_6 := (HB.out.cell (World.block_lt_of_cell? w _ hx111_6)).trans hx111_6
                  replace hx111_7 := (HB.out.cell (World.block_lt_of_cell? w _ hx111_7)).trans hx111_7
                  replace p111 := eq_true p111
                  replace q111 := eq_true q111
                  refine start_ (n := 12) (S := fun w' => w'.cell? (ad104.add ((a2).toNat * 8)) = some (.string ((rd_T23 l0 a2).f0)) ∧ w'.cell? ⟨(ad104.add ((a2).toNat * 8)).block, (ad104.add ((a2).toNat * 8)).off + 1, none⟩ = some (.string ((rd_T23 l0 a2).f1)) ∧ w'.cell? ⟨(ad104.add ((a2).toNat * 8)).block, (ad104.add ((a2).toNat * 8)).off + 2, none⟩ = some (.int .u8 ((rd_T23 l0 a2).f2)) ∧ w'.cell? ⟨(ad104.add ((a2).toNat * 8)).block, (ad104.add ((a2).toNat * 8)).off + 3, none⟩ = some (.int .i64 ((rd_T23 l0 a2).f3)) ∧ w'.cell? ⟨(ad104.add ((a2).toNat * 8)).block, (ad104.add ((a2).toNat * 8)).off + 4, none⟩ = some (.int .i64 ((rd_T23 l0 a2).f4)) ∧ w'.cell? ⟨(ad104.add ((a2).toNat * 8)).block, (ad104.add ((a2).toNat * 8)).off + 5, none⟩ = some (.int .i64 ((rd_T23 l0 a2).f5)) ∧ w'.cell? ⟨(ad104.add ((a2).toNat * 8)).block, (ad104.add ((a2).toNat * 8)).off + 6, none⟩ = some (.int .i64 ((rd_T23 l0 a2).f6)) ∧ w'.cell? ⟨(ad104.add ((a2).toNat * 8)).block, (ad104.add ((a2).toNat * 8)).off + 7, none⟩ = some (.string ((rd_T23 l0 a2).f7)) ∧ w'.cell? (ad104.add ((a1).toNat * 8)) = some (.string ((rd_T23 l0 a1).f0)) ∧ w'.cell? ⟨(ad104.add ((a1).toNat * 8)).block, (ad104.add ((a1).toNat * 8)).off + 1, none⟩ = some (.string ((rd_T23 l0 a1).f1)) ∧ w'.cell? ⟨(ad104.add ((a1).toNat * 8)).block, (ad104.add ((a1).toNat * 8)).off + 2, none⟩ = some (.int .u8 ((rd_T23 l0 a1).f2)) ∧ w'.cell? ⟨(ad104.add ((a1).toNat * 8)).block, (ad104.add ((a1).toNat * 8)).off + 3, none⟩ = some (.int .i64 ((rd_T23 l0 a1).f3)) ∧ w'.cell? ⟨(ad104.add ((a1).toNat * 8)).block, (ad104.add ((a1).toNat * 8)).off + 4, none⟩ = some (.int .i64 ((rd_T23 l0 a1).f4)) ∧ w'.cell? ⟨(ad104.add ((a1).toNat * 8)).block, (ad104.add ((a1).toNat * 8)).off + 5, none⟩ = some (.int .i64 ((rd_T23 l0 a1).f5)) ∧ w'.cell? ⟨(ad104.add ((a1).toNat * 8)).block, (ad104.add ((a1).toNat * 8)).off + 6, none⟩ = some (.int .i64 ((rd_T23 l0 a1).f6)) ∧ w'.cell? ⟨(ad104.add ((a1).toNat * 8)).block, (ad104.add ((a1).toNat * 8)).off + 7, none⟩ = some (.string ((rd_T23 l0 a1).f7))) (ds := []) #[false, false, false, false, false, false, false, false, false, false, false, false] (by kernel_rfl) rfl rfl ⟨((HB.out.cell (World.block_lt_of_cell? w _ hw110_0)).trans hw110_0), ((HB.out.cell (World.block_lt_of_cell? w _ hw110_1)).trans hw110_1), ((HB.out.cell (World.block_lt_of_cell? w _ hw110_2)).trans hw110_2), ((HB.out.cell (World.block_lt_of_cell? w _ hw110_3)).trans hw110_3), ((HB.out.cell (World.block_lt_of_cell? w _ hw110_4)).trans hw110_4), ((HB.out.cell (World.block_lt_of_cell? w _ hw110_5)).trans hw110_5), ((HB.out.cell (World.block_lt_of_cell? w _ hw110_6)).trans hw110_6), ((HB.out.cell (World.block_lt_of_cell? w _ hw110_7)).trans hw110_7), ((HB.out.cell (World.block_lt_of_cell? w _ hw111_0)).trans hw111_0), ((HB.out.cell (World.block_lt_of_cell? w _ hw111_1)).trans hw111_1), ((HB.out.cell (World.block_lt_of_cell? w _ hw111_2)).trans hw111_2), ((HB.out.cell (World.block_lt_of_cell? w _ hw111_3)).trans hw111_3), ((HB.out.cell (World.block_lt_of_cell? w _ hw111_4)).trans hw111_4), ((HB.out.cell (World.block_lt_of_cell? w _ hw111_5)).trans hw111_5), ((HB.out.cell (World.block_lt_of_cell? w _ hw111_6)).trans hw111_6), ((HB.out.cell (World.block_lt_of_cell? w _ hw111_7)).trans hw111_7)⟩ (fun hHeld => ?_); refine with_tabW reelkeeperlaw06_TreeUnder.tab7 reelkeeperlaw06_TreeUnder.bits7 (fun HT_ HW_ => ?_)
                  generalize w55.drew = w56 at HO107 HB hx110_0 hx110_1 hx110_2 hx110_3 hx110_4 hx110_5 hx110_6 hx110_7 hx111_0 hx111_1 hx111_2 hx111_3 hx111_4 hx111_5 hx111_6 hx111_7 hHeld ⊢
                  refine pure_ (i := 0) (N := some 62) (v := ?_) (a' := ?_) #[true, false, false, false, false, false, false, false, false, false, false, false] rfl rfl (any_of HT_.out (by kernel_rfl)) (fun _ _ _ h => h) (Or.inl ⟨by rfl, ?_⟩) ?_ ?_
                  rotate_left
                  · intro w'
                    go_simp
                    with_reducible rfl
                  rotate_left
                  · simp only [Act.put, List.setIfInBounds_toArray, List.set_cons_zero, List.set_cons_succ, i64_w, i32_w]
                    rfl
                  refine pure_ (i := 1) (N := some 63) (v := ?_) (a' := ?_) #[true, true, false, false, false, false, false, false, false, false, false, false] rfl rfl (any_of HT_.out (by kernel_rfl)) (fun _ _ _ h => h) (Or.inl ⟨by rfl, ?_⟩) ?_ ?_
                  rotate_left
                  · intro w'
                    go_simp
                    with_reducible rfl
                  rotate_left
                  · simp only [Act.put, List.setIfInBounds_toArray, List.set_cons_zero, List.set_cons_succ, i64_w, i32_w]
                    rfl
                  refine pure_ (i := 2) (N := some 64) (v := ?_) (a' := ?_) #[true, true, true, false, false, false, false, false, false, false, false, false] rfl rfl (any_of HT_.out (by kernel_rfl)) (fun _ _ _ h => h) (Or.inl ⟨by rfl, ?_⟩) ?_ ?_
                  rotate_left
                  · intro w'
                    go_simp
                    with_reducible rfl
                  rotate_left
                  · simp only [Act.put, List.setIfInBounds_toArray, List.set_cons_zero, List.set_cons_succ, i64_w, i32_w]
                    rfl
                  refine pure_ (i := 3) (N := some 65) (v := ?_) (a' := ?_) #[true, true, true, true, false, false, false, false, false, false, false, false] rfl rfl (any_of HT_.out (by kernel_rfl)) (fun _ _ _ h => h) (Or.inl ⟨by rfl, ?_⟩) ?_ ?_
                  rotate_left
                  · intro w'
                    go_simp
                    with_reducible rfl
                  rotate_left
                  · simp only [Act.put, List.setIfInBounds_toArray, List.set_cons_zero, List.set_cons_succ, i64_w, i32_w]
                    rfl
                  refine pure_ (i := 5) (N := some 67) (v := ?_) (a' := ?_) #[true, true, true, true, false, true, false, false, false, false, false, false] rfl rfl (any_of HT_.out (by kernel_rfl)) (fun _ _ _ h => h) (Or.inl ⟨by rfl, ?_⟩) ?_ ?_
                  rotate_left
                  · intro w'
                    go_simp
                    with_reducible rfl
                  rotate_left
                  · simp only [Act.put, List.setIfInBounds_toArray, List.set_cons_zero, List.set_cons_succ, i64_w, i32_w]
                    rfl
                  refine pure_ (i := 6) (N := some 68) (v := ?_) (a' := ?_) #[true, true, true, true, false, true, true, false, false, false, false, false] rfl rfl (any_of HT_.out (by kernel_rfl)) (fun _ _ _ h => h) (Or.inl ⟨by rfl, ?_⟩) ?_ ?_
                  rotate_left
                  · intro w'
                    go_simp
                    with_reducible rfl
                  rotate_left
                  · simp only [Act.put, List.setIfInBounds_toArray, List.set_cons_zero, List.set_cons_succ, i64_w, i32_w]
                    rfl
                  refine pure_ (i := 7) (N := some 69) (v := ?_) (a' := ?_) #[true, true, true, true, false, true, true, true, false, false, false, false] rfl rfl (any_of HT_.out (by kernel_rfl)) (fun _ _ _ h => h) (Or.inl ⟨by rfl, ?_⟩) ?_ ?_
                  rotate_left
                  · intro w'
                    go_simp
                    with_reducible rfl
                  rotate_left
                  · simp only [Act.put, List.setIfInBounds_toArray, List.set_cons_zero, List.set_cons_succ, i64_w, i32_w]
                    rfl
                  refine pure_ (i := 8) (N := some 70) (v := ?_) (a' := ?_) #[true, true, true, true, false, true, true, true, true, false, false, false] rfl rfl (any_of HT_.out (by kernel_rfl)) (fun _ _ _ h => h) (Or.inl ⟨by rfl, ?_⟩) ?_ ?_
                  rotate_left
                  · intro w'
                    go_simp
                    with_reducible rfl
                  rotate_left
                  · simp only [Act.put, List.setIfInBounds_toArray, List.set_cons_zero, List.set_cons_succ, i64_w, i32_w]
                    rfl
                  refine take_ (i := 4) (N := some 66) (v := ?_) (a' := ?_) #[true, true, true, true, true, true, true, true, true, false, false, false] rfl rfl (take_ofW HT_.out HW_.out (by kernel_rfl)) (fun _ _ _ h => h) (Or.inl ⟨by rfl, ?_⟩) hHeld ?_ ?_
                  rotate_left
                  · rintro w' ⟨s0, s1, s2, s3, s4, s5, s6, s7, s8, s9, s10, s11, s12, s13, s14, s15⟩
                    go_simp
                    with_reducible rfl
                  rotate_left
                  · simp only [Act.put, List.setIfInBounds_toArray, List.set_cons_zero, List.set_cons_succ, i64_w, i32_w]
                    rfl
                  refine take_ (i := 9) (N := some 71) (v := ?_) (a' := ?_) #[true, true, true, true, true, true, true, true, true, true, false, false] rfl rfl (take_ofW HT_.out HW_.out (by kernel_rfl)) (fun _ _ _ h => h) (Or.inl ⟨by rfl, ?_⟩) hHeld ?_ ?_
                  rotate_left
                  · rintro w' ⟨s0, s1, s2, s3, s4, s5, s6, s7, s8, s9, s10, s11, s12, s13, s14, s15⟩
                    go_simp
                    with_reducible rfl
                  rotate_left
                  · simp only [Act.put, List.setIfInBounds_toArray, List.set_cons_zero, List.set_cons_succ, i64_w, i32_w]
                    rfl
                  refine one_ (i := 10) (N := some 72) #[true, true, true, true, true, true, true, true, true, true, true, false] rfl rfl (one_of HT_.out (by kernel_rfl)) (by decide) (fun K hK => ?_)
                  refine goes_ Try.func28 (by kernel_rfl) rfl #[.string ((rd_T23 l0 a2).f0), .string ((rd_T23 l0 a1).f0)] (by rfl) rfl rfl (by (try simp only [List.map_toArray, List.map_cons, List.map_nil]); first | done | rfl | (simp only [List.length_drop, List.length_take]; rfl)) ?_
                  with_reducible refine (path_Below.calls ((rd_T23 l0 a2).f0) ((rd_T23 l0 a1).f0) t112 _ A28.out).mono ?_
                  rintro e w57 ⟨rfl, hb⟩
                  refine ⟨_, rfl, ?_⟩
                  have n0_ := Aside0.mk (Kd.R_below (by (with_reducible repeat (first | apply Kd.R_alloc | apply Kd.R_drewN | apply Kd.R_drew)); exact HO107.out) hb)
                  have n1_ := Aside0.mk (below_step (by repeat (first | (with_reducible first | exact HB.out | apply below_alloc | apply pw_below_drewN | apply below_drew1) | exact HB.out)) hb)
                  clear HO107
                  clear HB
                  have HO107 := n0_
                  have HB := n1_
                  clear n0_ n1_
                  (try clear hb)
                  (try clear hb2)
                  (try clear hk)
                  (try clear hi)
                  refine hK.out _ _ ⟨((HB.out.cell (World.block_lt_of_cell? w _ hw110_0)).trans hw110_0), ((HB.out.cell (World.block_lt_of_cell? w _ hw110_1)).trans hw110_1), ((HB.out.cell (World.block_lt_of_cell? w _ hw110_2)).trans hw110_2), ((HB.out.cell (World.block_lt_of_cell? w _ hw110_3)).trans hw110_3), ((HB.out.cell (World.block_lt_of_cell? w _ hw110_4)).trans hw110_4), ((HB.out.cell (World.block_lt_of_cell? w _ hw110_5)).trans hw110_5), ((HB.out.cell (World.block_lt_of_cell? w _ hw110_6)).trans hw110_6), ((HB.out.cell (World.block_lt_of_cell? w _ hw110_7)).trans hw110_7), ((HB.out.cell (World.block_lt_of_cell? w _ hw111_0)).trans hw111_0), ((HB.out.cell (World.block_lt_of_cell? w _ hw111_1)).trans hw111_1), ((HB.out.cell (World.block_lt_of_cell? w _ hw111_2)).trans hw111_2), ((HB.out.cell (World.block_lt_of_cell? w _ hw111_3)).trans hw111_3), ((HB.out.cell (World.block_lt_of_cell? w _ hw111_4)).trans hw111_4), ((HB.out.cell (World.block_lt_of_cell? w _ hw111_5)).trans hw111_5), ((HB.out.cell (World.block_lt_of_cell? w _ hw111_6)).trans hw111_6), ((HB.out.cell (World.block_lt_of_cell? w _ hw111_7)).trans hw111_7)⟩ (fun hHeld => ?_)
                  clear hK K
                  refine norm_ (a' := ?_) ?_ ?_
                  rotate_left
                  · show Act.put _ (some 72) _ = _
                    simp only [Act.put, List.setIfInBounds_toArray, List.set_cons_zero, List.set_cons_succ, i64_w, i32_w]
                    rfl
                  refine pure_ (i := 11) (N := some 11) (v := ?_) (a' := ?_) #[true, true, true, true, true, true, true, true, true, true, true, true] rfl rfl (any_of HT_.out (by kernel_rfl)) (fun _ _ _ h => h) (Or.inl ⟨by rfl, ?_⟩) ?_ ?_
                  rotate_left
                  · intro w'
                    go_simp
                    with_reducible rfl
                  rotate_left
                  · simp only [Act.put, List.setIfInBounds_toArray, List.set_cons_zero, List.set_cons_succ, i64_w, i32_w]
                    rfl
                  refine done_ (done_of HT_.out (by kernel_rfl)) ?_
                  try go_wp2
                  go_ret
                  exact ⟨by first | rfl | (simp [errW_none, errW_some] <;> rfl) | (simp [*, errW_none, errW_some] <;> rfl), by repeat (first | (with_reducible first | exact HB.out | apply below_alloc | apply pw_below_drewN | apply below_drew1) | exact HB.out)⟩
              · rw [if_neg c26] at H
                exact absurd H (by simp)
            · rw [if_neg c25] at H
              exact absurd H (by simp)
          · rw [if_neg c23] at H
            exact absurd H (by simp)
        · rw [if_neg c22] at H
          exact absurd H (by simp)

end Go.Proofs.Ytddjnicmpgbcgaa.X
