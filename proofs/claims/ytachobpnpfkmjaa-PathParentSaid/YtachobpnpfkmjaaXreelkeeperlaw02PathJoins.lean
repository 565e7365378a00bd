import Derived.Test.YtachobpnpfkmjaaXK
import Derived.Test.YtachobpnpfkmjaaXGpath
import Derived.Test.YtachobpnpfkmjaaXreelkeeperlaw02awake
namespace Go.Proofs.Ytachobpnpfkmjaa.X
open Go.RowKit Go.Proofs.YtachobpnpfkmjaaW.PrintWords Go.Proofs.YtachobpnpfkmjaaW.PrintLast Go.Proofs.YtachobpnpfkmjaaW.PrintMore
attribute [local go_sem] max2_int min2_int max_two min_two max_three min_three max_four min_four
set_option linter.unusedVariables false
set_option linter.unusedSimpArgs false

/-! ### reelkeeperlaw02_PathJoins: function 8 -/
mutual
def reelkeeperlaw02_PathJoins.j0 : Nat → ByteArray → ByteArray → Bool → Bool → Option (Bool)
  | 0, _, _, _, _ => none
  | k + 1, x0, x1, x5, x24 => if x24 = true then (some x5) else ((path_Join.f x0 x1).bind fun t223 => ((path_May.f x0).bind fun t224 => (if t224 = true then ((path_May.f x1).bind fun t225 => (if t225 = true then (reelkeeperlaw02_PathJoins.j1 k x0 x1 t223 (decide ((wrap64 ((x0.size : Int) + (x1.size : Int))) < 300))) else (reelkeeperlaw02_PathJoins.j1 k x0 x1 t223 false))) else (reelkeeperlaw02_PathJoins.j1 k x0 x1 t223 false))))
def reelkeeperlaw02_PathJoins.j1 : Nat → ByteArray → ByteArray → ByteArray → Bool → Option (Bool)
  | 0, _, _, _, _ => none
  | k + 1, x0, x1, x6, x7 => (path_May.f x6).bind fun t226 => (if (t226 != x7) = true then (reelkeeperlaw02_PathJoins.j2 k x0 x1 x6 x7 true) else (if x0.size + 1 ≤ 9223372036854775807 then (if (x0 ++ (⟨#[47]⟩ : ByteArray)).size + x1.size ≤ 9223372036854775807 then (reelkeeperlaw02_PathJoins.j2 k x0 x1 x6 x7 (x6.toList != ((x0 ++ (⟨#[47]⟩ : ByteArray)) ++ x1).toList)) else (none)) else (none)))
def reelkeeperlaw02_PathJoins.j2 : Nat → ByteArray → ByteArray → ByteArray → Bool → Bool → Option (Bool)
  | 0, _, _, _, _, _ => none
  | k + 1, x0, x1, x6, x7, x54 => if x54 = true then (some false) else (if x7 = true then ((path_Parts.f x6).bind fun t227 => ((path_Parts.f x0).bind fun t230 => ((path_Parts.f x1).bind fun t233 => (if (t227.length : Int) = (wrap64 ((t230.length : Int) + (t233.length : Int))) then ((path_Below.f x6 x0).bind fun t236 => (some t236)) else (some false))))) else (some true))
end
def reelkeeperlaw02_PathJoins.f (k : Nat) (a0 : ByteArray) (a1 : ByteArray) : Option (Bool) := (reelkeeperlaw02_awake.f k).bind fun t222 => (if t222 = true then (if (a0.size : Int) > 400 then (reelkeeperlaw02_PathJoins.j0 k a0 a1 t222 true) else (if (a1.size : Int) > 400 then (reelkeeperlaw02_PathJoins.j0 k a0 a1 t222 true) else (reelkeeperlaw02_PathJoins.j0 k a0 a1 t222 (a0.toList == ([] : List UInt8))))) else (reelkeeperlaw02_PathJoins.j0 k a0 a1 t222 true))
theorem reelkeeperlaw02_PathJoins.mono_l : ∀ k, (∀ y0 y1 y2 y3, LeO (reelkeeperlaw02_PathJoins.j0 k y0 y1 y2 y3) (reelkeeperlaw02_PathJoins.j0 (k + 1) y0 y1 y2 y3)) ∧ (∀ y0 y1 y2 y3, LeO (reelkeeperlaw02_PathJoins.j1 k y0 y1 y2 y3) (reelkeeperlaw02_PathJoins.j1 (k + 1) y0 y1 y2 y3)) ∧ (∀ y0 y1 y2 y3 y4, LeO (reelkeeperlaw02_PathJoins.j2 k y0 y1 y2 y3 y4) (reelkeeperlaw02_PathJoins.j2 (k + 1) y0 y1 y2 y3 y4))
  | 0 => ⟨fun _ _ _ _ r h => by simp [reelkeeperlaw02_PathJoins.j0] at h, fun _ _ _ _ r h => by simp [reelkeeperlaw02_PathJoins.j1] at h, fun _ _ _ _ _ r h => by simp [reelkeeperlaw02_PathJoins.j2] at h⟩
  | k + 1 => by
    obtain ⟨ih0, ih1, ih2⟩ := reelkeeperlaw02_PathJoins.mono_l k
    refine ⟨?_, ?_, ?_⟩
    · intro y0 y1 y2 y3
      unfold reelkeeperlaw02_PathJoins.j0
      repeat' first
      | (with_reducible exact ih0 _ _ _ _)
      | (with_reducible exact ih1 _ _ _ _)
      | (with_reducible exact ih2 _ _ _ _ _)
      | (with_reducible exact reelkeeperlaw02_awake.mono _)
      | (with_reducible exact LeO.refl _)
      | (with_reducible exact LeO.none _)
      | (with_reducible refine LeO.ite ?_ ?_)
      | (with_reducible refine LeO.bind ?_ (fun _ => ?_))
      | exact ih0 _ _ _ _
      | exact ih1 _ _ _ _
      | exact ih2 _ _ _ _ _
      | exact reelkeeperlaw02_awake.mono _
      | exact LeO.none _
      | refine LeO.ite ?_ ?_
      | refine LeO.bind ?_ (fun _ => ?_)
    · intro y0 y1 y2 y3
      unfold reelkeeperlaw02_PathJoins.j1
      repeat' first
      | (with_reducible exact ih0 _ _ _ _)
      | (with_reducible exact ih1 _ _ _ _)
      | (with_reducible exact ih2 _ _ _ _ _)
      | (with_reducible exact reelkeeperlaw02_awake.mono _)
      | (with_reducible exact LeO.refl _)
      | (with_reducible exact LeO.none _)
      | (with_reducible refine LeO.ite ?_ ?_)
      | (with_reducible refine LeO.bind ?_ (fun _ => ?_))
      | exact ih0 _ _ _ _
      | exact ih1 _ _ _ _
      | exact ih2 _ _ _ _ _
      | exact reelkeeperlaw02_awake.mono _
      | exact LeO.none _
      | refine LeO.ite ?_ ?_
      | refine LeO.bind ?_ (fun _ => ?_)
    · intro y0 y1 y2 y3 y4
      unfold reelkeeperlaw02_PathJoins.j2
      repeat' first
      | (with_reducible exact ih0 _ _ _ _)
      | (with_reducible exact ih1 _ _ _ _)
      | (with_reducible exact ih2 _ _ _ _ _)
      | (with_reducible exact reelkeeperlaw02_awake.mono _)
      | (with_reducible exact LeO.refl _)
      | (with_reducible exact LeO.none _)
      | (with_reducible refine LeO.ite ?_ ?_)
      | (with_reducible refine LeO.bind ?_ (fun _ => ?_))
      | exact ih0 _ _ _ _
      | exact ih1 _ _ _ _
      | exact ih2 _ _ _ _ _
      | exact reelkeeperlaw02_awake.mono _
      | exact LeO.none _
      | refine LeO.ite ?_ ?_
      | refine LeO.bind ?_ (fun _ => ?_)
theorem reelkeeperlaw02_PathJoins.mono : ∀ a0 a1 k, LeO (reelkeeperlaw02_PathJoins.f k a0 a1) (reelkeeperlaw02_PathJoins.f (k + 1) a0 a1) := by
  intro a0 a1 k
  obtain ⟨ih0, ih1, ih2⟩ := reelkeeperlaw02_PathJoins.mono_l k
  unfold reelkeeperlaw02_PathJoins.f
  repeat' first
      | (with_reducible exact ih0 _ _ _ _)
      | (with_reducible exact ih1 _ _ _ _)
      | (with_reducible exact ih2 _ _ _ _ _)
      | (with_reducible exact reelkeeperlaw02_awake.mono _)
      | (with_reducible exact LeO.refl _)
      | (with_reducible exact LeO.none _)
      | (with_reducible refine LeO.ite ?_ ?_)
      | (with_reducible refine LeO.bind ?_ (fun _ => ?_))
      | exact ih0 _ _ _ _
      | exact ih1 _ _ _ _
      | exact ih2 _ _ _ _ _
      | exact reelkeeperlaw02_awake.mono _
      | exact LeO.none _
      | refine LeO.ite ?_ ?_
      | refine LeO.bind ?_ (fun _ => ?_)
set_option maxHeartbeats 8000000 in
set_option maxRecDepth 100000 in
theorem reelkeeperlaw02_PathJoins.calls (k : Nat) (a0 : ByteArray) (a1 : ByteArray) (r : Bool) (w : World) (h : reelkeeperlaw02_PathJoins.f k a0 a1 = some r) :
    Calls Try.prog 8 #[.string a0, .string a1] w fun e w' => e = .returned (.bool r) ∧ Below w.heap.size w w' := by
  have HB := Aside0.mk (Below.refl w.heap.size w)
  have H : ((reelkeeperlaw02_awake.f k).bind fun t222 => (if t222 = true then (if (a0.size : Int) > 400 then (reelkeeperlaw02_PathJoins.j0 k a0 a1 t222 true) else (if (a1.size : Int) > 400 then (reelkeeperlaw02_PathJoins.j0 k a0 a1 t222 true) else (reelkeeperlaw02_PathJoins.j0 k a0 a1 t222 (a0.toList == ([] : List UInt8))))) else (reelkeeperlaw02_PathJoins.j0 k a0 a1 t222 true))) = some r := h
  clear h
  replace H := Option.bind_eq_some_iff.mp H
  obtain ⟨t222, A30, H⟩ := H
  replace H : (if t222 = true then (if (a0.size : Int) > 400 then (reelkeeperlaw02_PathJoins.j0 k a0 a1 t222 true) else (if (a1.size : Int) > 400 then (reelkeeperlaw02_PathJoins.j0 k a0 a1 t222 true) else (reelkeeperlaw02_PathJoins.j0 k a0 a1 t222 (a0.toList == ([] : List UInt8))))) else (reelkeeperlaw02_PathJoins.j0 k a0 a1 t222 true)) = some r := H
  have A3 := Aside0.mk A30
  clear A30
  have HC4 := Aside0.mk H
  clear H
  go_enter Try.func8, Try.ntmps8
  go_upto_region 2 with (first | ((with_reducible refine gate_callee (f := 10) rfl ?_); refine goesL_ (some 8) rfl rfl Try.func10 (by kernel_rfl) rfl #[] rfl (by (try simp only [List.map_toArray, List.map_cons, List.map_nil]); first | done | rfl | (simp only [List.length_drop, List.length_take]; rfl)) ?_; (with_reducible refine (reelkeeperlaw02_awake.calls k  t222 _ A3.out).mono ?_); rintro e w5 ⟨rfl, hb⟩; refine ⟨_, rfl, ?_⟩; have n0_ := Aside0.mk (below_step (by repeat (first | (with_reducible first | exact HB.out | apply below_alloc | apply pw_below_drewN | apply below_drew1) | exact HB.out)) hb); clear HB; have HB := n0_; clear n0_; (try clear hb); (try clear hb2); (try clear hk); (try clear hi)))
  (try simp only [Act.put, List.setIfInBounds_toArray, List.set_cons_zero, List.set_cons_succ])
  go_cut [24] (fun v24 wc => ∃ (kq : Nat) (x24_3 : Bool), v24 = .bool x24_3 ∧ Aside0 (reelkeeperlaw02_PathJoins.j0 kq a0 a1 t222 x24_3 = some r) ∧ Aside0 (kq ≤ k) ∧ Aside0 (Below w.heap.size w wc))
  case first =>
    have H := HC4.out
    clear HC4
    by_cases c6 : t222 = true
    · subst c6
      have H1 : (if (a0.size : Int) > 400 then (reelkeeperlaw02_PathJoins.j0 k a0 a1 true true) else (if (a1.size : Int) > 400 then (reelkeeperlaw02_PathJoins.j0 k a0 a1 true true) else (reelkeeperlaw02_PathJoins.j0 k a0 a1 true (a0.toList == ([] : List UInt8))))) = some r := by rw [if_pos rfl] at H; exact H
      clear H
      have H := H1
      clear H1
      by_cases c7 : (a0.size : Int) > 400
      · rw [if_pos c7] at H
        have c7b0 : decide (400 < (a0.size : Int)) = true := decide_eq_true c7
        have c7b1 : decide (400 < a0.size) = true := decide_eq_true (by omega)
        clear c7
        (first | rw [c7b0] | (simp only [i64_w, i32_w]; rw [c7b0]) | skip)
        have H' := Aside0.mk H
        clear H
        go_wp2
        go_meet
        case rel => exact ⟨_, (true), (by first | rfl | (simp; done) | (simp [*]; done)), H', ⟨by first | omega | exact Nat.le_refl _⟩, ⟨by repeat (first | (with_reducible first | exact HB.out | apply below_alloc | apply pw_below_drewN | apply below_drew1) | exact HB.out)⟩⟩
      · rw [if_neg c7] at H
        have c7b0 : decide (400 < (a0.size : Int)) = false := decide_eq_false c7
        have c7b1 : decide (400 < a0.size) = false := decide_eq_false (by omega)
        clear c7
        (first | rw [c7b0] | (simp only [i64_w, i32_w]; rw [c7b0]) | skip)
        by_cases c8 : (a1.size : Int) > 400
        · rw [if_pos c8] at H
          have c8b0 : decide (400 < (a1.size : Int)) = true := decide_eq_true c8
          have c8b1 : decide (400 < a1.size) = true := decide_eq_true (by omega)
          clear c8
          have H' := Aside0.mk H
          clear H
          go_wp2
          go_meet
          case rel => exact ⟨_, (true), (by first | rfl | (simp; done) | (simp [*]; done)), H', ⟨by first | omega | exact Nat.le_refl _⟩, ⟨by repeat (first | (with_reducible first | exact HB.out | apply below_alloc | apply pw_below_drewN | apply below_drew1) | exact HB.out)⟩⟩
        · rw [if_neg c8] at H
          have c8b0 : decide (400 < (a1.size : Int)) = false := decide_eq_false c8
          have c8b1 : decide (400 < a1.size) = false := decide_eq_false (by omega)
          clear c8
          have H' := Aside0.mk H
          clear H
          go_wp2
          go_meet
          case rel => exact ⟨_, ((a0.toList == ([] : List UInt8))), (by first | rfl | (simp; done) | (simp [*]; done)), H', ⟨by first | omega | exact Nat.le_refl _⟩, ⟨by repeat (first | (with_reducible first | exact HB.out | apply below_alloc | apply pw_below_drewN | apply below_drew1) | exact HB.out)⟩⟩
    · replace c6 := Bool.eq_false_iff.mpr c6
      subst c6
      have H1 : (reelkeeperlaw02_PathJoins.j0 k a0 a1 false true) = some r := by rw [if_neg (show ¬ (false = true) by decide)] at H; exact H
      clear H
      have H := H1
      clear H1
      have H' := Aside0.mk H
      clear H
      go_wp2
      go_meet
      case rel => exact ⟨_, (true), (by first | rfl | (simp; done) | (simp [*]; done)), H', ⟨by first | omega | exact Nat.le_refl _⟩, ⟨by repeat (first | (with_reducible first | exact HB.out | apply below_alloc | apply pw_below_drewN | apply below_drew1) | exact HB.out)⟩⟩
  case rest =>
    clear HC4
    try clear c1
    try clear p2
    try clear c6
    try clear c7
    try clear c7b0
    try clear c7b1
    try clear c8
    try clear c8b0
    try clear c8b1
    obtain ⟨kq, x24_3, rfl, HA, HJ3, HB⟩ := hcut
    cases kq with
    | zero => exact absurd HA.out (by simp [reelkeeperlaw02_PathJoins.j0])
    | succ kj3 =>
      have H := HA.out
      clear HA
      simp only [reelkeeperlaw02_PathJoins.j0] at H
      by_cases c9 : x24_3 = true
      · subst c9
        have H1 : (some t222) = some r := by rw [if_pos rfl] at H; exact H
        clear H
        have H := H1
        clear H1
        obtain rfl := Option.some.inj H
        go_wp2
        go_ret
        exact ⟨by first | rfl | (simp [errW_none, errW_some] <;> rfl) | (simp [*, errW_none, errW_some] <;> rfl), by repeat (first | (with_reducible first | exact HB.out | apply below_alloc | apply pw_below_drewN | apply below_drew1) | exact HB.out)⟩
      · replace c9 := Bool.eq_false_iff.mpr c9
        subst c9
        have H1 : ((path_Join.f a0 a1).bind fun t223 => ((path_May.f a0).bind fun t224 => (if t224 = true then ((path_May.f a1).bind fun t225 => (if t225 = true then (reelkeeperlaw02_PathJoins.j1 kj3 a0 a1 t223 (decide ((wrap64 ((a0.size : Int) + (a1.size : Int))) < 300))) else (reelkeeperlaw02_PathJoins.j1 kj3 a0 a1 t223 false))) else (reelkeeperlaw02_PathJoins.j1 kj3 a0 a1 t223 false)))) = some r := by rw [if_neg (show ¬ (false = true) by decide)] at H; exact H
        clear H
        have H := H1
        clear H1
        replace H := Option.bind_eq_some_iff.mp H
        obtain ⟨t223, A100, H⟩ := H
        replace H : ((path_May.f a0).bind fun t224 => (if t224 = true then ((path_May.f a1).bind fun t225 => (if t225 = true then (reelkeeperlaw02_PathJoins.j1 kj3 a0 a1 t223 (decide ((wrap64 ((a0.size : Int) + (a1.size : Int))) < 300))) else (reelkeeperlaw02_PathJoins.j1 kj3 a0 a1 t223 false))) else (reelkeeperlaw02_PathJoins.j1 kj3 a0 a1 t223 false))) = some r := H
        have A10 := Aside0.mk A100
        clear A100
        have HC11 := Aside0.mk H
        clear H
        go_upto_region 5 with (first | ((with_reducible refine gate_callee (f := 22) rfl ?_); refine goesL_ (some 28) rfl rfl Try.func22 (by kernel_rfl) rfl #[.string a0, .string a1] rfl (by (try simp only [List.map_toArray, List.map_cons, List.map_nil]); first | done | rfl | (simp only [List.length_drop, List.length_take]; rfl)) ?_; (with_reducible refine (path_Join.calls a0 a1 t223 _ A10.out).mono ?_); rintro e w' ⟨rfl, ⟨nd, rfl⟩⟩; refine ⟨_, rfl, ?_⟩))
        (try simp only [Act.put, List.setIfInBounds_toArray, List.set_cons_zero, List.set_cons_succ])
        go_cut [7] (fun v7 wc => ∃ (kq : Nat) (x7_10 : Bool), v7 = .bool x7_10 ∧ Aside0 (reelkeeperlaw02_PathJoins.j1 kq a0 a1 t223 x7_10 = some r) ∧ Aside0 (kq ≤ kj3) ∧ Aside0 (Below w.heap.size w wc))
        case first =>
          have H := HC11.out
          clear HC11
          replace H := Option.bind_eq_some_iff.mp H
          obtain ⟨t224, A120, H⟩ := H
          replace H : (if t224 = true then ((path_May.f a1).bind fun t225 => (if t225 = true then (reelkeeperlaw02_PathJoins.j1 kj3 a0 a1 t223 (decide ((wrap64 ((a0.size : Int) + (a1.size : Int))) < 300))) else (reelkeeperlaw02_PathJoins.j1 kj3 a0 a1 t223 false))) else (reelkeeperlaw02_PathJoins.j1 kj3 a0 a1 t223 false)) = some r := H
          have A12 := Aside0.mk A120
          clear A120
          by_cases c13 : t224 = true
          · subst c13
            have H1 : ((path_May.f a1).bind fun t225 => (if t225 = true then (reelkeeperlaw02_PathJoins.j1 kj3 a0 a1 t223 (decide ((wrap64 ((a0.size : Int) + (a1.size : Int))) < 300))) else (reelkeeperlaw02_PathJoins.j1 kj3 a0 a1 t223 false))) = some r := by rw [if_pos rfl] at H; exact H
            clear H
            have H := H1
            clear H1
            replace H := Option.bind_eq_some_iff.mp H
            obtain ⟨t225, A140, H⟩ := H
            replace H : (if t225 = true then (reelkeeperlaw02_PathJoins.j1 kj3 a0 a1 t223 (decide ((wrap64 ((a0.size : Int) + (a1.size : Int))) < 300))) else (reelkeeperlaw02_PathJoins.j1 kj3 a0 a1 t223 false)) = some r := H
            have A14 := Aside0.mk A140
            clear A140
            by_cases c15 : t225 = true
            · subst c15
              have H1 : (reelkeeperlaw02_PathJoins.j1 kj3 a0 a1 t223 (decide ((wrap64 ((a0.size : Int) + (a1.size : Int))) < 300))) = some r := by rw [if_pos rfl] at H; exact H
              clear H
              have H := H1
              clear H1
              have H' := Aside0.mk H
              clear H
              go_wp2_with (first | ((with_reducible refine gate_callee (f := 20) rfl ?_); refine goesL_ (some 30) rfl rfl Try.func20 (by kernel_rfl) rfl #[.string a0] rfl (by (try simp only [List.map_toArray, List.map_cons, List.map_nil]); first | done | rfl | (simp only [List.length_drop, List.length_take]; rfl)) ?_; (with_reducible refine (path_May.calls a0 true _ A12.out).mono ?_); rintro e w16 ⟨rfl, hb⟩; refine ⟨_, rfl, ?_⟩; have n0_ := Aside0.mk (below_step (by repeat (first | (with_reducible first | exact HB.out | apply below_alloc | apply pw_below_drewN | apply below_drew1) | exact HB.out)) hb); clear HB; have HB := n0_; clear n0_; (try clear hb); (try clear hb2); (try clear hk); (try clear hi)) | (go_at_call 20; (with_reducible refine (path_May.calls a1 true _ A14.out).mono ?_); rintro e w17 ⟨rfl, hb⟩; have n0_ := Aside0.mk (below_step (by repeat (first | (with_reducible first | exact HB.out | apply below_alloc | apply pw_below_drewN | apply below_drew1) | exact HB.out)) hb); clear HB; have HB := n0_; clear n0_; (try clear hb); (try clear hb2); (try clear hk); (try clear hi)))
              go_meet
              case rel => exact ⟨_, (decide ((wrap64 ((a0.size : Int) + (a1.size : Int))) < 300)), (by first | rfl | (simp; done) | (simp [*]; done)), H', ⟨by have := HJ3.out; first | omega | exact Nat.le_refl _⟩, ⟨by repeat (first | (with_reducible first | exact HB.out | apply below_alloc | apply pw_below_drewN | apply below_drew1) | exact HB.out)⟩⟩
            · replace c15 := Bool.eq_false_iff.mpr c15
              subst c15
              have H1 : (reelkeeperlaw02_PathJoins.j1 kj3 a0 a1 t223 false) = some r := by rw [if_neg (show ¬ (false = true) by decide)] at H; exact H
              clear H
              have H := H1
              clear H1
              have H' := Aside0.mk H
              clear H
              go_wp2_with (first | ((with_reducible refine gate_callee (f := 20) rfl ?_); refine goesL_ (some 30) rfl rfl Try.func20 (by kernel_rfl) rfl #[.string a0] rfl (by (try simp only [List.map_toArray, List.map_cons, List.map_nil]); first | done | rfl | (simp only [List.length_drop, List.length_take]; rfl)) ?_; (with_reducible refine (path_May.calls a0 true _ A12.out).mono ?_); rintro e w18 ⟨rfl, hb⟩; refine ⟨_, rfl, ?_⟩; have n0_ := Aside0.mk (below_step (by repeat (first | (with_reducible first | exact HB.out | apply below_alloc | apply pw_below_drewN | apply below_drew1) | exact HB.out)) hb); clear HB; have HB := n0_; clear n0_; (try clear hb); (try clear hb2); (try clear hk); (try clear hi)) | (go_at_call 20; (with_reducible refine (path_May.calls a1 false _ A14.out).mono ?_); rintro e w19 ⟨rfl, hb⟩; have n0_ := Aside0.mk (below_step (by repeat (first | (with_reducible first | exact HB.out | apply below_alloc | apply pw_below_drewN | apply below_drew1) | exact HB.out)) hb); clear HB; have HB := n0_; clear n0_; (try clear hb); (try clear hb2); (try clear hk); (try clear hi)))
              go_meet
              case rel => exact ⟨_, (false), (by first | rfl | (simp; done) | (simp [*]; done)), H', ⟨by have := HJ3.out; first | omega | exact Nat.le_refl _⟩, ⟨by repeat (first | (with_reducible first | exact HB.out | apply below_alloc | apply pw_below_drewN | apply below_drew1) | exact HB.out)⟩⟩
          · replace c13 := Bool.eq_false_iff.mpr c13
            subst c13
            have H1 : (reelkeeperlaw02_PathJoins.j1 kj3 a0 a1 t223 false) = some r := by rw [if_neg (show ¬ (false = true) by decide)] at H; exact H
            clear H
            have H := H1
            clear H1
            have H' := Aside0.mk H
            clear H
            go_wp2_with (first | ((with_reducible refine gate_callee (f := 20) rfl ?_); refine goesL_ (some 30) rfl rfl Try.func20 (by kernel_rfl) rfl #[.string a0] rfl (by (try simp only [List.map_toArray, List.map_cons, List.map_nil]); first | done | rfl | (simp only [List.length_drop, List.length_take]; rfl)) ?_; (with_reducible refine (path_May.calls a0 false _ A12.out).mono ?_); rintro e w20 ⟨rfl, hb⟩; refine ⟨_, rfl, ?_⟩; have n0_ := Aside0.mk (below_step (by repeat (first | (with_reducible first | exact HB.out | apply below_alloc | apply pw_below_drewN | apply below_drew1) | exact HB.out)) hb); clear HB; have HB := n0_; clear n0_; (try clear hb); (try clear hb2); (try clear hk); (try clear hi)))
            go_meet
            case rel => exact ⟨_, (false), (by first | rfl | (simp; done) | (simp [*]; done)), H', ⟨by have := HJ3.out; first | omega | exact Nat.le_refl _⟩, ⟨by repeat (first | (with_reducible first | exact HB.out | apply below_alloc | apply pw_below_drewN | apply below_drew1) | exact HB.out)⟩⟩
        case rest =>
          clear HC11
          try clear c1
          try clear c2
          try clear p2
          try clear c6
          try clear p6
          try clear c7
          try clear c7b0
          try clear c7b1
          try clear c8
          try clear c8b0
          try clear c8b1
          try clear c9
          try clear c10
          try clear c13
          try clear c15
          try clear c20
          try clear p2
          obtain ⟨kq, x7_10, rfl, HA, HJ10, HB⟩ := hcut
          cases kq with
          | zero => exact absurd HA.out (by simp [reelkeeperlaw02_PathJoins.j1])
          | succ kj10 =>
            have H := HA.out
            clear HA
            simp only [reelkeeperlaw02_PathJoins.j1] at H
            have HC21 := Aside0.mk H
            clear H
            go_upto_region 6 with (fail)
            go_cut [54] (fun v54 wc => ∃ (kq : Nat) (x54_20 : Bool), v54 = .bool x54_20 ∧ Aside0 (reelkeeperlaw02_PathJoins.j2 kq a0 a1 t223 x7_10 x54_20 = some r) ∧ Aside0 (kq ≤ kj10) ∧ Aside0 (Below w.heap.size w wc))
            case first =>
              have H := HC21.out
              clear HC21
              replace H := Option.bind_eq_some_iff.mp H
              obtain ⟨t226, A220, H⟩ := H
              replace H : (if (t226 != x7_10) = true then (reelkeeperlaw02_PathJoins.j2 kj10 a0 a1 t223 x7_10 true) else (if a0.size + 1 ≤ 9223372036854775807 then (if (a0 ++ (⟨#[47]⟩ : ByteArray)).size + a1.size ≤ 9223372036854775807 then (reelkeeperlaw02_PathJoins.j2 kj10 a0 a1 t223 x7_10 (t223.toList != ((a0 ++ (⟨#[47]⟩ : ByteArray)) ++ a1).toList)) else (none)) else (none))) = some r := H
              have A22 := Aside0.mk A220
              clear A220
              by_cases c23 : (t226 != x7_10) = true
              · rw [if_pos c23] at H
                have c23b0 : (t226 != x7_10) = true := c23
                (try (have c23b1 : decide (t226 = x7_10) = false := by simpa using c23))
                (try (have c23b2 : (t226 == x7_10) = false := by simpa using c23))
                (try (have c23b3 : ¬ (t226 = x7_10) := by simpa using c23))
                clear c23
                (first | rw [c23b0] | (simp only [i64_w, i32_w]; rw [c23b0]) | skip)
                have H' := Aside0.mk H
                clear H
                go_wp2_with (first | ((with_reducible refine gate_callee (f := 20) rfl ?_); refine goesL_ (some 44) rfl rfl Try.func20 (by kernel_rfl) rfl #[.string t223] rfl (by (try simp only [List.map_toArray, List.map_cons, List.map_nil]); first | done | rfl | (simp only [List.length_drop, List.length_take]; rfl)) ?_; (with_reducible refine (path_May.calls t223 t226 _ A22.out).mono ?_); rintro e w24 ⟨rfl, hb⟩; refine ⟨_, rfl, ?_⟩; have n0_ := Aside0.mk (below_step (by repeat (first | (with_reducible first | exact HB.out | apply below_alloc | apply pw_below_drewN | apply below_drew1) | exact HB.out)) hb); clear HB; have HB := n0_; clear n0_; (try clear hb); (try clear hb2); (try clear hk); (try clear hi)))
                go_meet
                case rel => exact ⟨_, (true), (by first | rfl | (simp; done) | (simp [*]; done)), H', ⟨by have := HJ3.out; have := HJ10.out; first | omega | exact Nat.le_refl _⟩, ⟨by repeat (first | (with_reducible first | exact HB.out | apply below_alloc | apply pw_below_drewN | apply below_drew1) | exact HB.out)⟩⟩
              · rw [if_neg c23] at H
                have c23b0 : (t226 != x7_10) = false := by simpa using c23
                (try (have c23b1 : decide (t226 = x7_10) = true := by simpa using c23))
                (try (have c23b2 : (t226 == x7_10) = true := by simpa using c23))
                clear c23
                (first | rw [c23b0] | (simp only [i64_w, i32_w]; rw [c23b0]) | skip)
                by_cases c25 : a0.size + 1 ≤ 9223372036854775807
                · rw [if_pos c25] at H
                  have c25b0 := eq_true c25
                  have c25b1 : decide (a0.size + 1 ≤ 9223372036854775807) = true := decide_eq_true c25
                  try have c25b2 : (9223372036854775807 < a0.size + 1) = False := eq_false (Nat.not_lt.2 c25)
                  by_cases c26 : (a0 ++ (⟨#[47]⟩ : ByteArray)).size + a1.size ≤ 9223372036854775807
                  · rw [if_pos c26] at H
                    have c26b0 := eq_true c26
                    have c26b1 : decide ((a0 ++ (⟨#[47]⟩ : ByteArray)).size + a1.size ≤ 9223372036854775807) = true := decide_eq_true c26
                    try have c26b2 : (9223372036854775807 < (a0 ++ (⟨#[47]⟩ : ByteArray)).size + a1.size) = False := eq_false (Nat.not_lt.2 c26)
                    have H' := Aside0.mk H
                    clear H
                    go_wp2_with (first | ((with_reducible refine gate_callee (f := 20) rfl ?_); refine goesL_ (some 44) rfl rfl Try.func20 (by kernel_rfl) rfl #[.string t223] rfl (by (try simp only [List.map_toArray, List.map_cons, List.map_nil]); first | done | rfl | (simp only [List.length_drop, List.length_take]; rfl)) ?_; (with_reducible refine (path_May.calls t223 t226 _ A22.out).mono ?_); rintro e w27 ⟨rfl, hb⟩; refine ⟨_, rfl, ?_⟩; have n0_ := Aside0.mk (below_step (by repeat (first | (with_reducible first | exact HB.out | apply below_alloc | apply pw_below_drewN | apply below_drew1) | exact HB.out)) hb); clear HB; have HB := n0_; clear n0_; (try clear hb); (try clear hb2); (try clear hk); (try clear hi)))
                    go_meet
                    case rel => exact ⟨_, ((t223.toList != ((a0 ++ (⟨#[47]⟩ : ByteArray)) ++ a1).toList)), (by first | rfl | (simp; done) | (simp [*]; done)), H', ⟨by have := HJ3.out; have := HJ10.out; first | omega | exact Nat.le_refl _⟩, ⟨by repeat (first | (with_reducible first | exact HB.out | apply below_alloc | apply pw_below_drewN | apply below_drew1) | exact HB.out)⟩⟩
                  · rw [if_neg c26] at H
                    exact absurd H (by simp)
                · rw [if_neg c25] at H
                  exact absurd H (by simp)
            case rest =>
              clear HC21
              try clear c1
              try clear c2
              try clear p2
              try clear c6
              try clear p6
              try clear c7
              try clear c7b0
              try clear c7b1
              try clear c8
              try clear c8b0
              try clear c8b1
              try clear c9
              try clear c10
              try clear c13
              try clear c15
              try clear c20
              try clear c22
              try clear c23
              try clear c23b0
              try clear c23b1
              try clear c23b2
              try clear c25
              try clear c25b0
              try clear c25b1
              try clear c25b2
              try clear c26
              try clear c26b0
              try clear c26b1
              try clear c26b2
              try clear p2
              try clear p6
              obtain ⟨kq, x54_20, rfl, HA, HJ20, HB⟩ := hcut
              cases kq with
              | zero => exact absurd HA.out (by simp [reelkeeperlaw02_PathJoins.j2])
              | succ kj20 =>
                have H := HA.out
                clear HA
                simp only [reelkeeperlaw02_PathJoins.j2] at H
                by_cases c28 : x54_20 = true
                · subst c28
                  have H1 : (some false) = some r := by rw [if_pos rfl] at H; exact H
                  clear H
                  have H := H1
                  clear H1
                  obtain rfl := Option.some.inj H
                  go_wp2
                  go_ret
                  exact ⟨by first | rfl | (simp [errW_none, errW_some] <;> rfl) | (simp [*, errW_none, errW_some] <;> rfl), by repeat (first | (with_reducible first | exact HB.out | apply below_alloc | apply pw_below_drewN | apply below_drew1) | exact HB.out)⟩
                · replace c28 := Bool.eq_false_iff.mpr c28
                  subst c28
                  have H1 : (if x7_10 = true then ((path_Parts.f t223).bind fun t227 => ((path_Parts.f a0).bind fun t230 => ((path_Parts.f a1).bind fun t233 => (if (t227.length : Int) = (wrap64 ((t230.length : Int) + (t233.length : Int))) then ((path_Below.f t223 a0).bind fun t236 => (some t236)) else (some false))))) else (some true)) = some r := by rw [if_neg (show ¬ (false = true) by decide)] at H; exact H
                  clear H
                  have H := H1
                  clear H1
                  by_cases c29 : x7_10 = true
                  · subst c29
                    have H1 : ((path_Parts.f t223).bind fun t227 => ((path_Parts.f a0).bind fun t230 => ((path_Parts.f a1).bind fun t233 => (if (t227.length : Int) = (wrap64 ((t230.length : Int) + (t233.length : Int))) then ((path_Below.f t223 a0).bind fun t236 => (some t236)) else (some false))))) = some r := by rw [if_pos rfl] at H; exact H
                    clear H
                    have H := H1
                    clear H1
                    replace H := Option.bind_eq_some_iff.mp H
                    obtain ⟨t227, A300, H⟩ := H
                    replace H : ((path_Parts.f a0).bind fun t230 => ((path_Parts.f a1).bind fun t233 => (if (t227.length : Int) = (wrap64 ((t230.length : Int) + (t233.length : Int))) then ((path_Below.f t223 a0).bind fun t236 => (some t236)) else (some false)))) = some r := H
                    have A30 := Aside0.mk A300
                    clear A300
                    replace H := Option.bind_eq_some_iff.mp H
                    obtain ⟨t230, A310, H⟩ := H
                    replace H : ((path_Parts.f a1).bind fun t233 => (if (t227.length : Int) = (wrap64 ((t230.length : Int) + (t233.length : Int))) then ((path_Below.f t223 a0).bind fun t236 => (some t236)) else (some false))) = some r := H
                    have A31 := Aside0.mk A310
                    clear A310
                    replace H := Option.bind_eq_some_iff.mp H
                    obtain ⟨t233, A320, H⟩ := H
                    replace H : (if (t227.length : Int) = (wrap64 ((t230.length : Int) + (t233.length : Int))) then ((path_Below.f t223 a0).bind fun t236 => (some t236)) else (some false)) = some r := H
                    have A32 := Aside0.mk A320
                    clear A320
                    by_cases c33 : (t227.length : Int) = (wrap64 ((t230.length : Int) + (t233.length : Int)))
                    · rw [if_pos c33] at H
                      have c33b0 : ((t227.length : Int) == (wrap64 ((t230.length : Int) + (t233.length : Int)))) = true := beq_iff_eq.mpr c33
                      have c33b1 : ((t227.length : Int) != (wrap64 ((t230.length : Int) + (t233.length : Int)))) = false := bne_eq_false_iff_eq.mpr c33
                      clear c33
                      replace H := Option.bind_eq_some_iff.mp H
                      obtain ⟨t236, A340, H⟩ := H
                      replace H : (some t236) = some r := H
                      have A34 := Aside0.mk A340
                      clear A340
                      obtain rfl := Option.some.inj H
                      go_wp2_with (first | (go_at_call 16; (with_reducible refine (path_Parts.calls t223 t227 _ A30.out).mono ?_); rintro e w35 ⟨v228, rfl, ho0, hb⟩; have n0_ := Aside0.mk (Kd.R_lower ho0 (below_size (by repeat (first | (with_reducible first | exact HB.out | apply below_alloc | apply pw_below_drewN | apply below_drew1) | exact HB.out)))); have n1_ := Aside0.mk (below_step (by repeat (first | (with_reducible first | exact HB.out | apply below_alloc | apply pw_below_drewN | apply below_drew1) | exact HB.out)) hb); clear HB; have HO229 := n0_; have HB := n1_; clear n0_ n1_; (try clear hb); (try clear hb2); (try clear hk); (try clear hi); (try clear ho0); obtain ⟨Ao36, co36, eo36⟩ := Kd.R_slice HO229.out; subst eo36) | (go_at_call 16; (with_reducible refine (path_Parts.calls a0 t230 _ A31.out).mono ?_); rintro e w37 ⟨v231, rfl, ho0, hb⟩; have n0_ := Aside0.mk (Kd.R_elder' (by (with_reducible repeat (first | apply Kd.R_alloc | apply Kd.R_drewN | apply Kd.R_drew)); exact HO229.out) (Kd.R_base ho0) hb); have n1_ := Aside0.mk (Kd.R_lower (Kd.R_new' ho0 (Kd.R_lt (by (with_reducible repeat (first | apply Kd.R_alloc | apply Kd.R_drewN | apply Kd.R_drew)); exact HO229.out))) (below_size (by repeat (first | (with_reducible first | exact HB.out | apply below_alloc | apply pw_below_drewN | apply below_drew1) | exact HB.out)))); have n2_ := Aside0.mk (below_step (by repeat (first | (with_reducible first | exact HB.out | apply below_alloc | apply pw_below_drewN | apply below_drew1) | exact HB.out)) hb); clear HO229; clear HB; have HO229 := n0_; have HO232 := n1_; have HB := n2_; clear n0_ n1_ n2_; (try clear hb); (try clear hb2); (try clear hk); (try clear hi); (try clear ho0); obtain ⟨Ao38, co38, eo38⟩ := Kd.R_slice HO232.out; subst eo38) | (go_at_call 16; (with_reducible refine (path_Parts.calls a1 t233 _ A32.out).mono ?_); rintro e w39 ⟨v234, rfl, ho0, hb⟩; have n0_ := Aside0.mk (Kd.R_elder' (by (with_reducible repeat (first | apply Kd.R_alloc | apply Kd.R_drewN | apply Kd.R_drew)); exact HO229.out) (Kd.R_base ho0) hb); have n1_ := Aside0.mk (Kd.R_elder' (by (with_reducible repeat (first | apply Kd.R_alloc | apply Kd.R_drewN | apply Kd.R_drew)); exact HO232.out) (Kd.R_base ho0) hb); have n2_ := Aside0.mk (Kd.R_lower (Kd.R_new' (Kd.R_new' ho0 (Kd.R_lt (by (with_reducible repeat (first | apply Kd.R_alloc | apply Kd.R_drewN | apply Kd.R_drew)); exact HO229.out))) (Kd.R_lt (by (with_reducible repeat (first | apply Kd.R_alloc | apply Kd.R_drewN | apply Kd.R_drew)); exact HO232.out))) (below_size (by repeat (first | (with_reducible first | exact HB.out | apply below_alloc | apply pw_below_drewN | apply below_drew1) | exact HB.out)))); have n3_ := Aside0.mk (below_step (by repeat (first | (with_reducible first | exact HB.out | apply below_alloc | apply pw_below_drewN | apply below_drew1) | exact HB.out)) hb); clear HO229; clear HO232; clear HB; have HO229 := n0_; have HO232 := n1_; have HO235 := n2_; have HB := n3_; clear n0_ n1_ n2_ n3_; (try clear hb); (try clear hb2); (try clear hk); (try clear hi); (try clear ho0); obtain ⟨Ao40, co40, eo40⟩ := Kd.R_slice HO235.out; subst eo40) | (go_at_call 21; (with_reducible refine (path_Below.calls t223 a0 t236 _ A34.out).mono ?_); rintro e w41 ⟨rfl, hb⟩; have n0_ := Aside0.mk (Kd.R_below (by (with_reducible repeat (first | apply Kd.R_alloc | apply Kd.R_drewN | apply Kd.R_drew)); exact HO229.out) hb); have n1_ := Aside0.mk (Kd.R_below (by (with_reducible repeat (first | apply Kd.R_alloc | apply Kd.R_drewN | apply Kd.R_drew)); exact HO232.out) hb); have n2_ := Aside0.mk (Kd.R_below (by (with_reducible repeat (first | apply Kd.R_alloc | apply Kd.R_drewN | apply Kd.R_drew)); exact HO235.out) hb); have n3_ := Aside0.mk (below_step (by repeat (first | (with_reducible first | exact HB.out | apply below_alloc | apply pw_below_drewN | apply below_drew1) | exact HB.out)) hb); clear HO229; clear HO232; clear HO235; clear HB; have HO229 := n0_; have HO232 := n1_; have HO235 := n2_; have HB := n3_; clear n0_ n1_ n2_ n3_; (try clear hb); (try clear hb2); (try clear hk); (try clear hi)))
                      go_ret
                      exact ⟨by first | rfl | (simp [errW_none, errW_some] <;> rfl) | (simp [*, errW_none, errW_some] <;> rfl), by repeat (first | (with_reducible first | exact HB.out | apply below_alloc | apply pw_below_drewN | apply below_drew1) | exact HB.out)⟩
                    · rw [if_neg c33] at H
                      have c33b0 : ((t227.length : Int) == (wrap64 ((t230.length : Int) + (t233.length : Int)))) = false := beq_eq_false_iff_ne.mpr c33
                      have c33b1 : ((t227.length : Int) != (wrap64 ((t230.length : Int) + (t233.length : Int)))) = true := bne_iff_ne.mpr c33
                      obtain rfl := Option.some.inj H
                      go_wp2_with (first | (go_at_call 16; (with_reducible refine (path_Parts.calls t223 t227 _ A30.out).mono ?_); rintro e w42 ⟨v228, rfl, ho0, hb⟩; have n0_ := Aside0.mk (Kd.R_lower ho0 (below_size (by repeat (first | (with_reducible first | exact HB.out | apply below_alloc | apply pw_below_drewN | apply below_drew1) | exact HB.out)))); have n1_ := Aside0.mk (below_step (by repeat (first | (with_reducible first | exact HB.out | apply below_alloc | apply pw_below_drewN | apply below_drew1) | exact HB.out)) hb); clear HB; have HO229 := n0_; have HB := n1_; clear n0_ n1_; (try clear hb); (try clear hb2); (try clear hk); (try clear hi); (try clear ho0); obtain ⟨Ao43, co43, eo43⟩ := Kd.R_slice HO229.out; subst eo43) | (go_at_call 16; (with_reducible refine (path_Parts.calls a0 t230 _ A31.out).mono ?_); rintro e w44 ⟨v231, rfl, ho0, hb⟩; have n0_ := Aside0.mk (Kd.R_elder' (by (with_reducible repeat (first | apply Kd.R_alloc | apply Kd.R_drewN | apply Kd.R_drew)); exact HO229.out) (Kd.R_base ho0) hb); have n1_ := Aside0.mk (Kd.R_lower (Kd.R_new' ho0 (Kd.R_lt (by (with_reducible repeat (first | apply Kd.R_alloc | apply Kd.R_drewN | apply Kd.R_drew)); exact HO229.out))) (below_size (by repeat (first | (with_reducible first | exact HB.out | apply below_alloc | apply pw_below_drewN | apply below_drew1) | exact HB.out)))); have n2_ := Aside0.mk (below_step (by repeat (first | (with_reducible first | exact HB.out | apply below_alloc | apply pw_below_drewN | apply below_drew1) | exact HB.out)) hb); clear HO229; clear HB; have HO229 := n0_; have HO232 := n1_; have HB := n2_; clear n0_ n1_ n2_; (try clear hb); (try clear hb2); (try clear hk); (try clear hi); (try clear ho0); obtain ⟨Ao45, co45, eo45⟩ := Kd.R_slice HO232.out; subst eo45) | (go_at_call 16; (with_reducible refine (path_Parts.calls a1 t233 _ A32.out).mono ?_); rintro e w46 ⟨v234, rfl, ho0, hb⟩; have n0_ := Aside0.mk (Kd.R_elder' (by (with_reducible repeat (first | apply Kd.R_alloc | apply Kd.R_drewN | apply Kd.R_drew)); exact HO229.out) (Kd.R_base ho0) hb); have n1_ := Aside0.mk (Kd.R_elder' (by (with_reducible repeat (first | apply Kd.R_alloc | apply Kd.R_drewN | apply Kd.R_drew)); exact HO232.out) (Kd.R_base ho0) hb); have n2_ := Aside0.mk (Kd.R_lower (Kd.R_new' (Kd.R_new' ho0 (Kd.R_lt (by (with_reducible repeat (first | apply Kd.R_alloc | apply Kd.R_drewN | apply Kd.R_drew)); exact HO229.out))) (Kd.R_lt (by (with_reducible repeat (first | apply Kd.R_alloc | apply Kd.R_drewN | apply Kd.R_drew)); exact HO232.out))) (below_size (by repeat (first | (with_reducible first | exact HB.out | apply below_alloc | apply pw_below_drewN | apply below_drew1) | exact HB.out)))); have n3_ := Aside0.mk (below_step (by repeat (first | (with_reducible first | exact HB.out | apply below_alloc | apply pw_below_drewN | apply below_drew1) | exact HB.out)) hb); clear HO229; clear HO232; clear HB; have HO229 := n0_; have HO232 := n1_; have HO235 := n2_; have HB := n3_; clear n0_ n1_ n2_ n3_; (try clear hb); (try clear hb2); (try clear hk); (try clear hi); (try clear ho0); obtain ⟨Ao47, co47, eo47⟩ := Kd.R_slice HO235.out; subst eo47))
                      go_ret
                      exact ⟨by first | rfl | (simp [errW_none, errW_some] <;> rfl) | (simp [*, errW_none, errW_some] <;> rfl), by repeat (first | (with_reducible first | exact HB.out | apply below_alloc | apply pw_below_drewN | apply below_drew1) | exact HB.out)⟩
                  · replace c29 := Bool.eq_false_iff.mpr c29
                    subst c29
                    have H1 : (some true) = some r := by rw [if_neg (show ¬ (false = true) by decide)] at H; exact H
                    clear H
                    have H := H1
                    clear H1
                    obtain rfl := Option.some.inj H
                    go_wp2
                    go_ret
                    exact ⟨by first | rfl | (simp [errW_none, errW_some] <;> rfl) | (simp [*, errW_none, errW_some] <;> rfl), by repeat (first | (with_reducible first | exact HB.out | apply below_alloc | apply pw_below_drewN | apply below_drew1) | exact HB.out)⟩

/-- THE ONE PURE STATEMENT of reelkeeperlaw02_PathJoins: yours. -/
def reelkeeperlaw02_PathJoins.Pure : Prop := ∀ (a0 : ByteArray) (a1 : ByteArray), a0.size ≤ 140737488351232 → a1.size ≤ 140737488351232 → ∃ k, reelkeeperlaw02_PathJoins.f k a0 a1 = some true
theorem reelkeeperlaw02_PathJoins.walk (P : reelkeeperlaw02_PathJoins.Pure) (a0 : ByteArray) (a1 : ByteArray) (w : World) (w0 : a0.size ≤ 140737488351232) (w1 : a1.size ≤ 140737488351232) :
    Calls Try.prog 8 #[.string a0, .string a1] w fun e w' => e = .returned (.bool true) ∧ Below w.heap.size w w' := by
  obtain ⟨k, h⟩ := P a0 a1 w0 w1
  refine (reelkeeperlaw02_PathJoins.calls k a0 a1 true w h).mono ?_
  rintro e w' ⟨rfl, hd⟩
  exact ⟨rfl, hd⟩

end Go.Proofs.Ytachobpnpfkmjaa.X
