import Derived.Test.YtddjnicmpgbcgaaXK
import Derived.Test.YtddjnicmpgbcgaaXGtree
import Derived.Test.YtddjnicmpgbcgaaXreelkeeperlaw06Few
import Derived.Test.YtddjnicmpgbcgaaXreelkeeperlaw06awake
namespace Go.Proofs.Ytddjnicmpgbcgaa.X
open Go.RowKit Go.Proofs.YtddjnicmpgbcgaaW.PrintWords Go.Proofs.YtddjnicmpgbcgaaW.PrintLast Go.Proofs.YtddjnicmpgbcgaaW.PrintMore
attribute [local go_sem] max2_int min2_int max_two min_two max_three min_three max_four min_four
set_option linter.unusedVariables false
set_option linter.unusedSimpArgs false

/-! ### reelkeeperlaw06_TreeFirst: function 4 -/
def reelkeeperlaw06_TreeFirst.j0 : Nat → List (S23) → Int → Bool → Bool → Option (Bool)
  | 0, _, _, _, _ => none
  | k + 1, x0, x1, x5, x30 => if x30 = true then (some x5) else (if 0 ≤ x1 then (if x1 ≤ (x0.length : Int) then ((tree_May.f k (x0.take (x1 : Int).toNat)).bind fun t108 => (if t108 = true then (if x1 < (x0.length : Int) then ((tree_One.f ((rd_T23 x0 x1).f0) ((rd_T23 x0 x1).f1) ((rd_T23 x0 x1).f2) ((rd_T23 x0 x1).f3) ((rd_T23 x0 x1).f4) ((rd_T23 x0 x1).f5) ((rd_T23 x0 x1).f6) ((rd_T23 x0 x1).f7)).bind fun t110 => (if t110 = true then ((tree_Find.f x0 ((rd_T23 x0 x1).f0)).bind fun t112 => (some (t112 == x1))) else (some false))) else (none)) else (some false))) else (none)) else (none))
def reelkeeperlaw06_TreeFirst.f (k : Nat) (l0 : List (S23)) (a1 : Int) : Option (Bool) := (reelkeeperlaw06_awake.f k).bind fun t101 => ((reelkeeperlaw06_Few.f k l0).bind fun t102 => (if t101 = true then (if t102 = true then ((tree_May.f k l0).bind fun t103 => (if t103 = true then (if a1 < 0 then (reelkeeperlaw06_TreeFirst.j0 k l0 a1 t101 true) else (reelkeeperlaw06_TreeFirst.j0 k l0 a1 t101 (decide (a1 ≥ (l0.length : Int))))) else (reelkeeperlaw06_TreeFirst.j0 k l0 a1 t101 true))) else (reelkeeperlaw06_TreeFirst.j0 k l0 a1 t101 true)) else (reelkeeperlaw06_TreeFirst.j0 k l0 a1 t101 true)))
theorem reelkeeperlaw06_TreeFirst.mono_l : ∀ k, (∀ y0 y1 y2 y3, LeO (reelkeeperlaw06_TreeFirst.j0 k y0 y1 y2 y3) (reelkeeperlaw06_TreeFirst.j0 (k + 1) y0 y1 y2 y3))
  | 0 => fun _ _ _ _ r h => by simp [reelkeeperlaw06_TreeFirst.j0] at h
  | k + 1 => by
    have ih0 := reelkeeperlaw06_TreeFirst.mono_l k
    · intro y0 y1 y2 y3
      unfold reelkeeperlaw06_TreeFirst.j0
      repeat' first
      | (with_reducible exact ih0 _ _ _ _)
      | (with_reducible exact reelkeeperlaw06_Few.mono _ _)
      | (with_reducible exact reelkeeperlaw06_awake.mono _)
      | (with_reducible exact tree_May.mono _ _)
      | (with_reducible exact LeO.refl _)
      | (with_reducible exact LeO.none _)
      | (with_reducible refine LeO.ite ?_ ?_)
      | (with_reducible refine LeO.bind ?_ (fun _ => ?_))
      | exact ih0 _ _ _ _
      | exact reelkeeperlaw06_Few.mono _ _
      | exact reelkeeperlaw06_awake.mono _
      | exact tree_May.mono _ _
      | exact LeO.none _
      | refine LeO.ite ?_ ?_
      | refine LeO.bind ?_ (fun _ => ?_)
theorem reelkeeperlaw06_TreeFirst.mono : ∀ a0 a1 k, LeO (reelkeeperlaw06_TreeFirst.f k a0 a1) (reelkeeperlaw06_TreeFirst.f (k + 1) a0 a1) := by
  intro a0 a1 k
  have ih0 := reelkeeperlaw06_TreeFirst.mono_l k
  unfold reelkeeperlaw06_TreeFirst.f
  repeat' first
      | (with_reducible exact ih0 _ _ _ _)
      | (with_reducible exact reelkeeperlaw06_Few.mono _ _)
      | (with_reducible exact reelkeeperlaw06_awake.mono _)
      | (with_reducible exact tree_May.mono _ _)
      | (with_reducible exact LeO.refl _)
      | (with_reducible exact LeO.none _)
      | (with_reducible refine LeO.ite ?_ ?_)
      | (with_reducible refine LeO.bind ?_ (fun _ => ?_))
      | exact ih0 _ _ _ _
      | exact reelkeeperlaw06_Few.mono _ _
      | exact reelkeeperlaw06_awake.mono _
      | exact tree_May.mono _ _
      | exact LeO.none _
      | refine LeO.ite ?_ ?_
      | refine LeO.bind ?_ (fun _ => ?_)
set_option maxHeartbeats 8000000 in
set_option maxRecDepth 100000 in
theorem reelkeeperlaw06_TreeFirst.calls (k : Nat) (A0 : Option Addr) (c0 : Nat) (l0 : List (S23)) (a1 : Int) (r : Bool) (w : World) (hr0 : Kd.C k23 w A0 l0.length l0) (hc0 : l0.length ≤ c0) (h : reelkeeperlaw06_TreeFirst.f k l0 a1 = some r) :
    Calls Try.prog 4 #[.slice A0 l0.length c0, .int .i64 a1] w fun e w' => e = .returned (.bool r) ∧ Below w.heap.size w w' := by
  have hu23 := Try.underlying23
  have HR0 := Aside0.mk hr0
  have HC0 := Aside0.mk hc0
  clear hr0 hc0
  have HB := Aside0.mk (Below.refl w.heap.size w)
  have H : ((reelkeeperlaw06_awake.f k).bind fun t101 => ((reelkeeperlaw06_Few.f k l0).bind fun t102 => (if t101 = true then (if t102 = true then ((tree_May.f k l0).bind fun t103 => (if t103 = true then (if a1 < 0 then (reelkeeperlaw06_TreeFirst.j0 k l0 a1 t101 true) else (reelkeeperlaw06_TreeFirst.j0 k l0 a1 t101 (decide (a1 ≥ (l0.length : Int))))) else (reelkeeperlaw06_TreeFirst.j0 k l0 a1 t101 true))) else (reelkeeperlaw06_TreeFirst.j0 k l0 a1 t101 true)) else (reelkeeperlaw06_TreeFirst.j0 k l0 a1 t101 true)))) = some r := h
  clear h
  replace H := Option.bind_eq_some_iff.mp H
  obtain ⟨t101, A30, H⟩ := H
  replace H : ((reelkeeperlaw06_Few.f k l0).bind fun t102 => (if t101 = true then (if t102 = true then ((tree_May.f k l0).bind fun t103 => (if t103 = true then (if a1 < 0 then (reelkeeperlaw06_TreeFirst.j0 k l0 a1 t101 true) else (reelkeeperlaw06_TreeFirst.j0 k l0 a1 t101 (decide (a1 ≥ (l0.length : Int))))) else (reelkeeperlaw06_TreeFirst.j0 k l0 a1 t101 true))) else (reelkeeperlaw06_TreeFirst.j0 k l0 a1 t101 true)) else (reelkeeperlaw06_TreeFirst.j0 k l0 a1 t101 true))) = some r := H
  have A3 := Aside0.mk A30
  clear A30
  replace H := Option.bind_eq_some_iff.mp H
  obtain ⟨t102, A40, H⟩ := H
  replace H : (if t101 = true then (if t102 = true then ((tree_May.f k l0).bind fun t103 => (if t103 = true then (if a1 < 0 then (reelkeeperlaw06_TreeFirst.j0 k l0 a1 t101 true) else (reelkeeperlaw06_TreeFirst.j0 k l0 a1 t101 (decide (a1 ≥ (l0.length : Int))))) else (reelkeeperlaw06_TreeFirst.j0 k l0 a1 t101 true))) else (reelkeeperlaw06_TreeFirst.j0 k l0 a1 t101 true)) else (reelkeeperlaw06_TreeFirst.j0 k l0 a1 t101 true)) = some r := H
  have A4 := Aside0.mk A40
  clear A40
  have HC5 := Aside0.mk H
  clear H
  go_enter Try.func4, Try.ntmps4
  go_upto_region 3 with (first | ((with_reducible refine gate_callee (f := 15) rfl ?_); refine goesL_ (some 7) rfl rfl Try.func15 (by kernel_rfl) rfl #[] rfl (by (try simp only [List.map_toArray, List.map_cons, List.map_nil]); first | done | rfl | (simp only [List.length_drop, List.length_take]; rfl)) ?_; (with_reducible refine (reelkeeperlaw06_awake.calls k  t101 _ A3.out).mono ?_); rintro e w6 ⟨rfl, hb⟩; refine ⟨_, rfl, ?_⟩; have n0_ := Aside0.mk (below_step (by repeat (first | (with_reducible first | exact HB.out | apply below_alloc | apply pw_below_drewN | apply below_drew1) | exact HB.out)) hb); clear HB; have HB := n0_; clear n0_; (try clear hb); (try clear hb2); (try clear hk); (try clear hi)) | ((with_reducible refine gate_callee (f := 17) rfl ?_); refine goesL_ (some 9) rfl rfl Try.func17 (by kernel_rfl) rfl #[.slice A0 l0.length c0] rfl (by (try simp only [List.map_toArray, List.map_cons, List.map_nil]); first | done | rfl | (simp only [List.length_drop, List.length_take]; rfl)) ?_; (with_reducible refine (reelkeeperlaw06_Few.calls k _ _ l0 t102 _ ?side1 ?side2 A4.out).mono ?_); (case side1 => repeat (first | exact (Kd.C_below HR0.out HB.out) | (with_reducible refine Kd.C_alloc ?_ _) | (with_reducible refine Kd.C_drewN ?_ _) | (with_reducible refine Kd.C_drew ?_))); (case side2 => exact HC0.out); rintro e w7 ⟨rfl, hb⟩; refine ⟨_, rfl, ?_⟩; have n0_ := Aside0.mk (below_step (by repeat (first | (with_reducible first | exact HB.out | apply below_alloc | apply pw_below_drewN | apply below_drew1) | exact HB.out)) hb); clear HB; have HB := n0_; clear n0_; (try clear hb); (try clear hb2); (try clear hk); (try clear hi)))
  (try simp only [Act.put, List.setIfInBounds_toArray, List.set_cons_zero, List.set_cons_succ])
  go_cut [30] (fun v30 wc => ∃ (kq : Nat) (x30_4 : Bool), v30 = .bool x30_4 ∧ Aside0 (reelkeeperlaw06_TreeFirst.j0 kq l0 a1 t101 x30_4 = some r) ∧ Aside0 (kq ≤ k) ∧ Aside0 (Below w.heap.size w wc))
  case first =>
    have H := HC5.out
    clear HC5
    by_cases c8 : t101 = true
    · subst c8
      have H1 : (if t102 = true then ((tree_May.f k l0).bind fun t103 => (if t103 = true then (if a1 < 0 then (reelkeeperlaw06_TreeFirst.j0 k l0 a1 true true) else (reelkeeperlaw06_TreeFirst.j0 k l0 a1 true (decide (a1 ≥ (l0.length : Int))))) else (reelkeeperlaw06_TreeFirst.j0 k l0 a1 true true))) else (reelkeeperlaw06_TreeFirst.j0 k l0 a1 true true)) = some r := by rw [if_pos rfl] at H; exact H
      clear H
      have H := H1
      clear H1
      by_cases c9 : t102 = true
      · subst c9
        have H1 : ((tree_May.f k l0).bind fun t103 => (if t103 = true then (if a1 < 0 then (reelkeeperlaw06_TreeFirst.j0 k l0 a1 true true) else (reelkeeperlaw06_TreeFirst.j0 k l0 a1 true (decide (a1 ≥ (l0.length : Int))))) else (reelkeeperlaw06_TreeFirst.j0 k l0 a1 true true))) = some r := by rw [if_pos rfl] at H; exact H
        clear H
        have H := H1
        clear H1
        replace H := Option.bind_eq_some_iff.mp H
        obtain ⟨t103, A100, H⟩ := H
        replace H : (if t103 = true then (if a1 < 0 then (reelkeeperlaw06_TreeFirst.j0 k l0 a1 true true) else (reelkeeperlaw06_TreeFirst.j0 k l0 a1 true (decide (a1 ≥ (l0.length : Int))))) else (reelkeeperlaw06_TreeFirst.j0 k l0 a1 true true)) = some r := H
        have A10 := Aside0.mk A100
        clear A100
        by_cases c11 : t103 = true
        · subst c11
          have H1 : (if a1 < 0 then (reelkeeperlaw06_TreeFirst.j0 k l0 a1 true true) else (reelkeeperlaw06_TreeFirst.j0 k l0 a1 true (decide (a1 ≥ (l0.length : Int))))) = some r := by rw [if_pos rfl] at H; exact H
          clear H
          have H := H1
          clear H1
          by_cases c12 : a1 < 0
          · rw [if_pos c12] at H
            have c12b0 : decide (a1 < 0) = true := decide_eq_true c12
            clear c12
            (first | rw [c12b0] | (simp only [i64_w, i32_w]; rw [c12b0]) | skip)
            have H' := Aside0.mk H
            clear H
            go_wp2_with (first | (go_at_call 24; (with_reducible refine (tree_May.calls k _ _ l0 true _ ?side1 ?side2 A10.out).mono ?_); (case side1 => repeat (first | exact (Kd.C_below HR0.out HB.out) | (with_reducible refine Kd.C_alloc ?_ _) | (with_reducible refine Kd.C_drewN ?_ _) | (with_reducible refine Kd.C_drew ?_))); (case side2 => exact HC0.out); rintro e w13 ⟨rfl, hb⟩; have n0_ := Aside0.mk (below_step (by repeat (first | (with_reducible first | exact HB.out | apply below_alloc | apply pw_below_drewN | apply below_drew1) | exact HB.out)) hb); clear HB; have HB := n0_; clear n0_; (try clear hb); (try clear hb2); (try clear hk); (try clear hi)))
            go_meet
            case rel => exact ⟨_, (true), (by first | rfl | (simp; done) | (simp [*]; done)), H', ⟨by first | omega | exact Nat.le_refl _⟩, ⟨by repeat (first | (with_reducible first | exact HB.out | apply below_alloc | apply pw_below_drewN | apply below_drew1) | exact HB.out)⟩⟩
          · rw [if_neg c12] at H
            have c12b0 : decide (a1 < 0) = false := decide_eq_false c12
            clear c12
            (first | rw [c12b0] | (simp only [i64_w, i32_w]; rw [c12b0]) | skip)
            have H' := Aside0.mk H
            clear H
            go_wp2_with (first | (go_at_call 24; (with_reducible refine (tree_May.calls k _ _ l0 true _ ?side1 ?side2 A10.out).mono ?_); (case side1 => repeat (first | exact (Kd.C_below HR0.out HB.out) | (with_reducible refine Kd.C_alloc ?_ _) | (with_reducible refine Kd.C_drewN ?_ _) | (with_reducible refine Kd.C_drew ?_))); (case side2 => exact HC0.out); rintro e w14 ⟨rfl, hb⟩; have n0_ := Aside0.mk (below_step (by repeat (first | (with_reducible first | exact HB.out | apply below_alloc | apply pw_below_drewN | apply below_drew1) | exact HB.out)) hb); clear HB; have HB := n0_; clear n0_; (try clear hb); (try clear hb2); (try clear hk); (try clear hi)))
            go_meet
            case rel => exact ⟨_, (decide (a1 ≥ (l0.length : Int))), (by first | rfl | (simp; done) | (simp [*]; done)), H', ⟨by first | omega | exact Nat.le_refl _⟩, ⟨by repeat (first | (with_reducible first | exact HB.out | apply below_alloc | apply pw_below_drewN | apply below_drew1) | exact HB.out)⟩⟩
        · replace c11 := Bool.eq_false_iff.mpr c11
          subst c11
          have H1 : (reelkeeperlaw06_TreeFirst.j0 k l0 a1 true true) = some r := by rw [if_neg (show ¬ (false = true) by decide)] at H; exact H
          clear H
          have H := H1
          clear H1
          have H' := Aside0.mk H
          clear H
          go_wp2_with (first | (go_at_call 24; (with_reducible refine (tree_May.calls k _ _ l0 false _ ?side1 ?side2 A10.out).mono ?_); (case side1 => repeat (first | exact (Kd.C_below HR0.out HB.out) | (with_reducible refine Kd.C_alloc ?_ _) | (with_reducible refine Kd.C_drewN ?_ _) | (with_reducible refine Kd.C_drew ?_))); (case side2 => exact HC0.out); rintro e w15 ⟨rfl, hb⟩; have n0_ := Aside0.mk (below_step (by repeat (first | (with_reducible first | exact HB.out | apply below_alloc | apply pw_below_drewN | apply below_drew1) | exact HB.out)) hb); clear HB; have HB := n0_; clear n0_; (try clear hb); (try clear hb2); (try clear hk); (try clear hi)))
          go_meet
          case rel => exact ⟨_, (true), (by first | rfl | (simp; done) | (simp [*]; done)), H', ⟨by first | omega | exact Nat.le_refl _⟩, ⟨by repeat (first | (with_reducible first | exact HB.out | apply below_alloc | apply pw_below_drewN | apply below_drew1) | exact HB.out)⟩⟩
      · replace c9 := Bool.eq_false_iff.mpr c9
        subst c9
        have H1 : (reelkeeperlaw06_TreeFirst.j0 k l0 a1 true true) = some r := by rw [if_neg (show ¬ (false = true) by decide)] at H; exact H
        clear H
        have H := H1
        clear H1
        have H' := Aside0.mk H
        clear H
        go_wp2
        go_meet
        case rel => exact ⟨_, (true), (by first | rfl | (simp; done) | (simp [*]; done)), H', ⟨by first | omega | exact Nat.le_refl _⟩, ⟨by repeat (first | (with_reducible first | exact HB.out | apply below_alloc | apply pw_below_drewN | apply below_drew1) | exact HB.out)⟩⟩
    · replace c8 := Bool.eq_false_iff.mpr c8
      subst c8
      have H1 : (reelkeeperlaw06_TreeFirst.j0 k l0 a1 false true) = some r := by rw [if_neg (show ¬ (false = true) by decide)] at H; exact H
      clear H
      have H := H1
      clear H1
      have H' := Aside0.mk H
      clear H
      go_wp2
      go_meet
      case rel => exact ⟨_, (true), (by first | rfl | (simp; done) | (simp [*]; done)), H', ⟨by first | omega | exact Nat.le_refl _⟩, ⟨by repeat (first | (with_reducible first | exact HB.out | apply below_alloc | apply pw_below_drewN | apply below_drew1) | exact HB.out)⟩⟩
  case rest =>
    clear HC5
    try clear c1
    try clear p2
    try clear c4
    try clear c8
    try clear c9
    try clear c11
    try clear c12
    try clear c12b0
    try clear c15
    obtain ⟨kq, x30_4, rfl, HA, HJ4, HB⟩ := hcut
    cases kq with
    | zero => exact absurd HA.out (by simp [reelkeeperlaw06_TreeFirst.j0])
    | succ kj4 =>
      have H := HA.out
      clear HA
      simp only [reelkeeperlaw06_TreeFirst.j0] at H
      by_cases c16 : x30_4 = true
      · subst c16
        have H1 : (some t101) = some r := by rw [if_pos rfl] at H; exact H
        clear H
        have H := H1
        clear H1
        obtain rfl := Option.some.inj H
        go_wp2
        go_ret
        exact ⟨by first | rfl | (simp [errW_none, errW_some] <;> rfl) | (simp [*, errW_none, errW_some] <;> rfl), by repeat (first | (with_reducible first | exact HB.out | apply below_alloc | apply pw_below_drewN | apply below_drew1) | exact HB.out)⟩
      · replace c16 := Bool.eq_false_iff.mpr c16
        subst c16
        have H1 : (if 0 ≤ a1 then (if a1 ≤ (l0.length : Int) then ((tree_May.f kj4 (l0.take (a1 : Int).toNat)).bind fun t108 => (if t108 = true then (if a1 < (l0.length : Int) then ((tree_One.f ((rd_T23 l0 a1).f0) ((rd_T23 l0 a1).f1) ((rd_T23 l0 a1).f2) ((rd_T23 l0 a1).f3) ((rd_T23 l0 a1).f4) ((rd_T23 l0 a1).f5) ((rd_T23 l0 a1).f6) ((rd_T23 l0 a1).f7)).bind fun t110 => (if t110 = true then ((tree_Find.f l0 ((rd_T23 l0 a1).f0)).bind fun t112 => (some (t112 == a1))) else (some false))) else (none)) else (some false))) else (none)) else (none)) = some r := by rw [if_neg (show ¬ (false = true) by decide)] at H; exact H
        clear H
        have H := H1
        clear H1
        by_cases c17 : 0 ≤ a1
        · rw [if_pos c17] at H
          have c17b0 := eq_true c17
          have c17b1 : decide (0 ≤ a1) = true := decide_eq_true c17
          clear c17
          by_cases c18 : a1 ≤ (l0.length : Int)
          · rw [if_pos c18] at H
            have c18b0 := eq_true c18
            have c18b1 : decide (a1 ≤ (l0.length : Int)) = true := decide_eq_true c18
            clear c18
            obtain ⟨y104, hy104⟩ : ∃ y_ : List (S23), y_ = (l0.take (a1 : Int).toNat) := ⟨_, rfl⟩
            replace H : ((tree_May.f kj4 y104).bind fun t108 => (if t108 = true then (if a1 < (l0.length : Int) then ((tree_One.f ((rd_T23 l0 a1).f0) ((rd_T23 l0 a1).f1) ((rd_T23 l0 a1).f2) ((rd_T23 l0 a1).f3) ((rd_T23 l0 a1).f4) ((rd_T23 l0 a1).f5) ((rd_T23 l0 a1).f6) ((rd_T23 l0 a1).f7)).bind fun t110 => (if t110 = true then ((tree_Find.f l0 ((rd_T23 l0 a1).f0)).bind fun t112 => (some (t112 == a1))) else (some false))) else (none)) else (some false))) = some r := by first | (rw [hy104]; with_reducible exact H) | (have H2_ := (Option.bind_some _ _).symm.trans H; rw [hy104]; with_reducible exact H2_) | (have H2_ := (Option.bind_some _ _).symm.trans H; with_reducible exact H2_) | with_reducible exact H | (rw [hy104]; exact H) | exact H
            have Ny104 := Aside0.mk hy104
            clear hy104
            replace H := Option.bind_eq_some_iff.mp H
            obtain ⟨t108, A190, H⟩ := H
            replace H : (if t108 = true then (if a1 < (l0.length : Int) then ((tree_One.f ((rd_T23 l0 a1).f0) ((rd_T23 l0 a1).f1) ((rd_T23 l0 a1).f2) ((rd_T23 l0 a1).f3) ((rd_T23 l0 a1).f4) ((rd_T23 l0 a1).f5) ((rd_T23 l0 a1).f6) ((rd_T23 l0 a1).f7)).bind fun t110 => (if t110 = true then ((tree_Find.f l0 ((rd_T23 l0 a1).f0)).bind fun t112 => (some (t112 == a1))) else (some false))) else (none)) else (some false)) = some r := H
            have A19 := Aside0.mk A190
            clear A190
            by_cases c20 : t108 = true
            · subst c20
              have H1 : (if a1 < (l0.length : Int) then ((tree_One.f ((rd_T23 l0 a1).f0) ((rd_T23 l0 a1).f1) ((rd_T23 l0 a1).f2) ((rd_T23 l0 a1).f3) ((rd_T23 l0 a1).f4) ((rd_T23 l0 a1).f5) ((rd_T23 l0 a1).f6) ((rd_T23 l0 a1).f7)).bind fun t110 => (if t110 = true then ((tree_Find.f l0 ((rd_T23 l0 a1).f0)).bind fun t112 => (some (t112 == a1))) else (some false))) else (none)) = some r := by rw [if_pos rfl] at H; exact H
              clear H
              have H := H1
              clear H1
              by_cases c21 : a1 < (l0.length : Int)
              · rw [if_pos c21] at H
                have c21b0 : decide (a1 < (l0.length : Int)) = true := decide_eq_true c21
                clear c21
                replace H := Option.bind_eq_some_iff.mp H
                obtain ⟨t110, A220, H⟩ := H
                replace H : (if t110 = true then ((tree_Find.f l0 ((rd_T23 l0 a1).f0)).bind fun t112 => (some (t112 == a1))) else (some false)) = some r := H
                have A22 := Aside0.mk A220
                clear A220
                by_cases c23 : t110 = true
                · subst c23
                  have H1 : ((tree_Find.f l0 ((rd_T23 l0 a1).f0)).bind fun t112 => (some (t112 == a1))) = some r := by rw [if_pos rfl] at H; exact H
                  clear H
                  have H := H1
                  clear H1
                  replace H := Option.bind_eq_some_iff.mp H
                  obtain ⟨t112, A240, H⟩ := H
                  replace H : (some (t112 == a1)) = some r := H
                  have A24 := Aside0.mk A240
                  clear A240
                  obtain rfl := Option.some.inj H
                  have q25 : (a1 : Int) ≤ ((l0.length : Int) : Int) := of_decide_eq_true (by first | (with_reducible assumption) | assumption)
                  obtain ⟨i025, hi025, _, hsz25, _⟩ := info_parts info23
                  have hroom25 : l0.length ≤ c0 := HC0.out
                  have hC25 : Kd.C k23 _ A0 l0.length l0 := HR0.out
                  have hcut25 := cut_to (P := Try.prog) 24 23 .i64 Try.underlying24 hi025 A0 l0.length c0 a1 (of_decide_eq_true (by first | (with_reducible assumption) | assumption)) q25 hroom25
                  have hr25 := Kd.C_take (m := (a1 : Int).toNat) hC25 (by omega)
                  have hy25 : y104.length = (a1 : Int).toNat := (by rw [Ny104.out, List.length_take]; omega)
                  rw [← Ny104.out] at hr25
                  rw [← hy25] at hcut25
                  have HR107 := Aside0.mk hr25
                  have HC107 := Aside0.mk (show y104.length ≤ c0 from by omega)
                  clear hr25 hC25 hroom25 hi025 hsz25
                  have KY25 := Aside0.mk hy25
                  clear hy25
                  replace q25 := eq_true q25
                  go_wp2_with (first | ((with_reducible refine gate_callee (f := 24) rfl ?_); refine goesL_ (some 35) rfl rfl Try.func24 (by kernel_rfl) rfl #[.slice A0 y104.length c0] rfl (by (try simp only [List.map_toArray, List.map_cons, List.map_nil]); first | done | rfl | (simp only [List.length_drop, List.length_take]; rfl)) ?_; (with_reducible refine (tree_May.calls kj4 _ _ y104 true _ ?side1 ?side2 A19.out).mono ?_); (case side1 => repeat (first | exact (Kd.C_below HR107.out HB.out) | (with_reducible refine Kd.C_alloc ?_ _) | (with_reducible refine Kd.C_drewN ?_ _) | (with_reducible refine Kd.C_drew ?_))); (case side2 => exact HC107.out); rintro e w26 ⟨rfl, hb⟩; refine ⟨_, rfl, ?_⟩; have n0_ := Aside0.mk (below_step (by repeat (first | (with_reducible first | exact HB.out | apply below_alloc | apply pw_below_drewN | apply below_drew1) | exact HB.out)) hb); clear HB; have HB := n0_; clear n0_; (try clear hb); (try clear hb2); (try clear hk); (try clear hi); have p109 : 0 ≤ (a1 : Int) := of_decide_eq_true (by first | (with_reducible assumption) | assumption); have q109 : a1 < (l0.length : Int) := of_decide_eq_true (by first | (with_reducible assumption) | assumption); obtain ⟨ad109, e109, hx109_0, hx109_1, hx109_2, hx109_3, hx109_4, hx109_5, hx109_6, hx109_7⟩ := at_T23 HR0.out a1 p109 q109; cases e109; replace hx109_0 := (HB.out.cell (World.block_lt_of_cell? w _ hx109_0)).trans hx109_0; replace hx109_1 := (HB.out.cell (World.block_lt_of_cell? w _ hx109_1)).trans hx109_1; replace hx109_2 := (HB.out.cell (World.block_lt_of_cell? w _ hx109_2)).trans hx109_2; replace hx109_3 := (HB.out.cell (World.block_lt_of_cell? w _ hx109_3)).trans hx109_3; replace hx109_4 := (HB.out.cell (World.block_lt_of_cell? w _ hx109_4)).trans hx109_4; replace hx109_5 := (HB.out.cell (World.block_lt_of_cell? w _ hx109_5)).trans hx109_5; replace hx109_6 := (HB.out.cell (World.block_lt_of_cell? w _ hx109_6)).trans hx109_6; replace hx109_7 := (HB.out.cell (World.block_lt_of_cell? w _ hx109_7)).trans hx109_7; replace p109 := eq_true p109; replace q109 := eq_true q109) | (go_at_call 23; (with_reducible refine (tree_One.calls ((rd_T23 l0 a1).f0) ((rd_T23 l0 a1).f1) ((rd_T23 l0 a1).f2) ((rd_T23 l0 a1).f3) ((rd_T23 l0 a1).f4) ((rd_T23 l0 a1).f5) ((rd_T23 l0 a1).f6) ((rd_T23 l0 a1).f7) true _ A22.out).mono ?_); rintro e w27 ⟨rfl, hb⟩; have n0_ := Aside0.mk (below_step (by repeat (first | (with_reducible first | exact HB.out | apply below_alloc | apply pw_below_drewN | apply below_drew1) | exact HB.out)) hb); clear HB; have HB := n0_; clear n0_; (try clear hb); (try clear hb2); (try clear hk); (try clear hi); have p111 : 0 ≤ (a1 : Int) := of_decide_eq_true (by first | (with_reducible assumption) | assumption); have q111 : a1 < (l0.length : Int) := of_decide_eq_true (by first | (with_reducible assumption) | assumption); obtain ⟨ad111, e111, hx111_0, hx111_1, hx111_2, hx111_3, hx111_4, hx111_5, hx111_6, hx111_7⟩ := at_T23 HR0.out a1 p111 q111; obtain rfl : ad109 = ad111 := (by injection e111); replace hx111_0 := (HB.out.cell (World.block_lt_of_cell? w _ hx111_0)).trans hx111_0; replace hx111_1 := (HB.out.cell (World.block_lt_of_cell? w _ hx111_1)).trans hx111_1; replace hx111_2 := (HB.out.cell (World.block_lt_of_cell? w _ hx111_2)).trans hx111_2; replace hx111_3 := (HB.out.cell (World.block_lt_of_cell? w _ hx111_3)).trans hx111_3; replace hx111_4 := (HB.out.cell (World.block_lt_of_cell? w _ hx111_4)).trans hx111_4; replace hx111_5 := (HB.out.cell (World.block_lt_of_cell? w _ hx111_5)).trans hx111_5; replace hx111_6 := (HB.out.cell (World.block_lt_of_cell? w _ hx111_6)).trans hx111_6; replace hx111_7 := (HB.out.cell (World.block_lt_of_cell? w _ hx111_7)).trans hx111_7; replace p111 := eq_true p111; replace q111 := eq_true q111) | (go_at_call 26; (with_reducible refine (tree_Find.calls _ _ l0 ((rd_T23 l0 a1).f0) t112 _ ?side1 ?side2 A24.out).mono ?_); (case side1 => repeat (first | exact (Kd.C_below HR0.out HB.out) | (with_reducible refine Kd.C_alloc ?_ _) | (with_reducible refine Kd.C_drewN ?_ _) | (with_reducible refine Kd.C_drew ?_))); (case side2 => exact HC0.out); rintro e w28 ⟨rfl, hb⟩; have n0_ := Aside0.mk (below_step (by repeat (first | (with_reducible first | exact HB.out | apply below_alloc | apply pw_below_drewN | apply below_drew1) | exact HB.out)) hb); clear HB; have HB := n0_; clear n0_; (try clear hb); (try clear hb2); (try clear hk); (try clear hi)))
                  go_ret
                  exact ⟨by first | rfl | (simp [errW_none, errW_some] <;> rfl) | (simp [*, errW_none, errW_some] <;> rfl), by repeat (first | (with_reducible first | exact HB.out | apply below_alloc | apply pw_below_drewN | apply below_drew1) | exact HB.out)⟩
                · replace c23 := Bool.eq_false_iff.mpr c23
                  subst c23
                  have H1 : (some false) = some r := by rw [if_neg (show ¬ (false = true) by decide)] at H; exact H
                  clear H
                  have H := H1
                  clear H1
                  obtain rfl := Option.some.inj H
                  have q29 : (a1 : Int) ≤ ((l0.length : Int) : Int) := of_decide_eq_true (by first | (with_reducible assumption) | assumption)
                  obtain ⟨i029, hi029, _, hsz29, _⟩ := info_parts info23
                  have hroom29 : l0.length ≤ c0 := HC0.out
                  have hC29 : Kd.C k23 _ A0 l0.length l0 := HR0.out
                  have hcut29 := cut_to (P := Try.prog) 24 23 .i64 Try.underlying24 hi029 A0 l0.length c0 a1 (of_decide_eq_true (by first | (with_reducible assumption) | assumption)) q29 hroom29
                  have hr29 := Kd.C_take (m := (a1 : Int).toNat) hC29 (by omega)
                  have hy29 : y104.length = (a1 : Int).toNat := (by rw [Ny104.out, List.length_take]; omega)
                  rw [← Ny104.out] at hr29
                  rw [← hy29] at hcut29
                  have HR107 := Aside0.mk hr29
                  have HC107 := Aside0.mk (show y104.length ≤ c0 from by omega)
                  clear hr29 hC29 hroom29 hi029 hsz29
                  have KY29 := Aside0.mk hy29
                  clear hy29
                  replace q29 := eq_true q29
                  go_wp2_with (first | ((with_reducible refine gate_callee (f := 24) rfl ?_); refine goesL_ (some 35) rfl rfl Try.func24 (by kernel_rfl) rfl #[.slice A0 y104.length c0] rfl (by (try simp only [List.map_toArray, List.map_cons, List.map_nil]); first | done | rfl | (simp only [List.length_drop, List.length_take]; rfl)) ?_; (with_reducible refine (tree_May.calls kj4 _ _ y104 true _ ?side1 ?side2 A19.out).mono ?_); (case side1 => repeat (first | exact (Kd.C_below HR107.out HB.out) | (with_reducible refine Kd.C_alloc ?_ _) | (with_reducible refine Kd.C_drewN ?_ _) | (with_reducible refine Kd.C_drew ?_))); (case side2 => exact HC107.out); rintro e w30 ⟨rfl, hb⟩; refine ⟨_, rfl, ?_⟩; have n0_ := Aside0.mk (below_step (by repeat (first | (with_reducible first | exact HB.out | apply below_alloc | apply pw_below_drewN | apply below_drew1) | exact HB.out)) hb); clear HB; have HB := n0_; clear n0_; (try clear hb); (try clear hb2); (try clear hk); (try clear hi); have p109 : 0 ≤ (a1 : Int) := of_decide_eq_true (by first | (with_reducible assumption) | assumption); have q109 : a1 < (l0.length : Int) := of_decide_eq_true (by first | (with_reducible assumption) | assumption); obtain ⟨ad109, e109, hx109_0, hx109_1, hx109_2, hx109_3, hx109_4, hx109_5, hx109_6, hx109_7⟩ := at_T23 HR0.out a1 p109 q109; cases e109; replace hx109_0 := (HB.out.cell (World.block_lt_of_cell? w _ hx109_0)).trans hx109_0; replace hx109_1 := (HB.out.cell (World.block_lt_of_cell? w _ hx109_1)).trans hx109_1; replace hx109_2 := (HB.out.cell (World.block_lt_of_cell? w _ hx109_2)).trans hx109_2; replace hx109_3 := (HB.out.cell (World.block_lt_of_cell? w _ hx109_3)).trans hx109_3; replace hx109_4 := (HB.out.cell (World.block_lt_of_cell? w _ hx109_4)).trans hx109_4; replace hx109_5 := (HB.out.cell (World.block_lt_of_cell? w _ hx109_5)).trans hx109_5; replace hx109_6 := (HB.out.cell (World.block_lt_of_cell? w _ hx109_6)).trans hx109_6; replace hx109_7 := (HB.out.cell (World.block_lt_of_cell? w _ hx109_7)).trans hx109_7; replace p109 := eq_true p109; replace q109 := eq_true q109) | (go_at_call 23; (with_reducible refine (tree_One.calls ((rd_T23 l0 a1).f0) ((rd_T23 l0 a1).f1) ((rd_T23 l0 a1).f2) ((rd_T23 l0 a1).f3) ((rd_T23 l0 a1).f4) ((rd_T23 l0 a1).f5) ((rd_T23 l0 a1).f6) ((rd_T23 l0 a1).f7) false _ A22.out).mono ?_); rintro e w31 ⟨rfl, hb⟩; have n0_ := Aside0.mk (below_step (by repeat (first | (with_reducible first | exact HB.out | apply below_alloc | apply pw_below_drewN | apply below_drew1) | exact HB.out)) hb); clear HB; have HB := n0_; clear n0_; (try clear hb); (try clear hb2); (try clear hk); (try clear hi)))
                  go_ret
                  exact ⟨by first | rfl | (simp [errW_none, errW_some] <;> rfl) | (simp [*, errW_none, errW_some] <;> rfl), by repeat (first | (with_reducible first | exact HB.out | apply below_alloc | apply pw_below_drewN | apply below_drew1) | exact HB.out)⟩
              · rw [if_neg c21] at H
                exact absurd H (by simp)
            · replace c20 := Bool.eq_false_iff.mpr c20
              subst c20
              have H1 : (some false) = some r := by rw [if_neg (show ¬ (false = true) by decide)] at H; exact H
              clear H
              have H := H1
              clear H1
              obtain rfl := Option.some.inj H
              have q32 : (a1 : Int) ≤ ((l0.length : Int) : Int) := of_decide_eq_true (by first | (with_reducible assumption) | assumption)
              obtain ⟨i032, hi032, _, hsz32, _⟩ := info_parts info23
              have hroom32 : l0.length ≤ c0 := HC0.out
              have hC32 : Kd.C k23 _ A0 l0.length l0 := HR0.out
              have hcut32 := cut_to (P := Try.prog) 24 23 .i64 Try.underlying24 hi032 A0 l0.length c0 a1 (of_decide_eq_true (by first | (with_reducible assumption) | assumption)) q32 hroom32
              have hr32 := Kd.C_take (m := (a1 : Int).toNat) hC32 (by omega)
              have hy32 : y104.length = (a1 : Int).toNat := (by rw [Ny104.out, List.length_take]; omega)
              rw [← Ny104.out] at hr32
              rw [← hy32] at hcut32
              have HR107 := Aside0.mk hr32
              have HC107 := Aside0.mk (show y104.length ≤ c0 from by omega)
              clear hr32 hC32 hroom32 hi032 hsz32
              have KY32 := Aside0.mk hy32
              clear hy32
              replace q32 := eq_true q32
              go_wp2_with (first | ((with_reducible refine gate_callee (f := 24) rfl ?_); refine goesL_ (some 35) rfl rfl Try.func24 (by kernel_rfl) rfl #[.slice A0 y104.length c0] rfl (by (try simp only [List.map_toArray, List.map_cons, List.map_nil]); first | done | rfl | (simp only [List.length_drop, List.length_take]; rfl)) ?_; (with_reducible refine (tree_May.calls kj4 _ _ y104 false _ ?side1 ?side2 A19.out).mono ?_); (case side1 => repeat (first | exact (Kd.C_below HR107.out HB.out) | (with_reducible refine Kd.C_alloc ?_ _) | (with_reducible refine Kd.C_drewN ?_ _) | (with_reducible refine Kd.C_drew ?_))); (case side2 => exact HC107.out); rintro e w33 ⟨rfl, hb⟩; refine ⟨_, rfl, ?_⟩; have n0_ := Aside0.mk (below_step (by repeat (first | (with_reducible first | exact HB.out | apply below_alloc | apply pw_below_drewN | apply below_drew1) | exact HB.out)) hb); clear HB; have HB := n0_; clear n0_; (try clear hb); (try clear hb2); (try clear hk); (try clear hi)))
              go_ret
              exact ⟨by first | rfl | (simp [errW_none, errW_some] <;> rfl) | (simp [*, errW_none, errW_some] <;> rfl), by repeat (first | (with_reducible first | exact HB.out | apply below_alloc | apply pw_below_drewN | apply below_drew1) | exact HB.out)⟩
          · rw [if_neg c18] at H
            exact absurd H (by simp)
        · rw [if_neg c17] at H
          exact absurd H (by simp)

end Go.Proofs.Ytddjnicmpgbcgaa.X
