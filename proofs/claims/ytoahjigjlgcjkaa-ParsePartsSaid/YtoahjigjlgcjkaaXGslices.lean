import Derived.Test.YtoahjigjlgcjkaaXK
import Derived.Test.YtoahjigjlgcjkaaXE39
import Derived.Test.YtoahjigjlgcjkaaYAll
import Derived.Laws.EntriesVeiled
import Derived.WalkSpells
namespace Go.Proofs.Ytoahjigjlgcjkaa.X
open Go.RowKit Go.Proofs.YtoahjigjlgcjkaaW.PrintWords Go.Proofs.YtoahjigjlgcjkaaW.PrintLast Go.Proofs.YtoahjigjlgcjkaaW.PrintMore
attribute [local go_sem] max2_int min2_int max_two min_two
set_option linter.unusedVariables false
set_option linter.unusedSimpArgs false

attribute [local go_sem high] eqA39
/-! ### slices_Equal_Ev: function 40 -/
def slices_Equal_Ev.l0 : Nat → List (S39) → List (S39) → Int → Int → Option (Bool)
  | 0, _, _, _, _ => none
  | k + 1, x0, x1, x12, x13 => if x13 < x12 then (if 0 ≤ x13 then (if x13 < (x0.length : Int) then (if x13 < (x1.length : Int) then (if (!(((rd_T39 x0 x13).f0) == ((rd_T39 x1 x13).f0)) || ((!((((rd_T39 x0 x13).f1.f0).toList) == (((rd_T39 x1 x13).f1.f0).toList)) || (!((((rd_T39 x0 x13).f1.f1).toList) == (((rd_T39 x1 x13).f1.f1).toList)) || (!(((rd_T39 x0 x13).f1.f2) == ((rd_T39 x1 x13).f1.f2)) || (!(((rd_T39 x0 x13).f1.f3) == ((rd_T39 x1 x13).f1.f3)) || (!(((rd_T39 x0 x13).f1.f4) == ((rd_T39 x1 x13).f1.f4)) || (!(((rd_T39 x0 x13).f1.f5) == ((rd_T39 x1 x13).f1.f5)) || (!(((rd_T39 x0 x13).f1.f6) == ((rd_T39 x1 x13).f1.f6)) || (!((((rd_T39 x0 x13).f1.f7).toList) == (((rd_T39 x1 x13).f1.f7).toList)))))))))) || (!((((rd_T39 x0 x13).f2).toList) == (((rd_T39 x1 x13).f2).toList))))) = true then (some false) else (slices_Equal_Ev.l0 k x0 x1 x12 (wrap64 (x13 + 1)))) else (none)) else (none)) else (none)) else (some true)
def slices_Equal_Ev.f (k : Nat) (l0 : List (S39)) (l1 : List (S39)) : Option (Bool) := if (l0.length : Int) = (l1.length : Int) then (slices_Equal_Ev.l0 k l0 l1 (l0.length : Int) 0) else (some false)
theorem slices_Equal_Ev.mono_l : ∀ k, (∀ y0 y1 y2 y3, LeO (slices_Equal_Ev.l0 k y0 y1 y2 y3) (slices_Equal_Ev.l0 (k + 1) y0 y1 y2 y3))
  | 0 => fun _ _ _ _ r h => by simp [slices_Equal_Ev.l0] at h
  | k + 1 => by
    have ih0 := slices_Equal_Ev.mono_l k
    · intro y0 y1 y2 y3
      unfold slices_Equal_Ev.l0
      repeat' first
      | (with_reducible exact ih0 _ _ _ _)
      | (with_reducible exact LeO.refl _)
      | (with_reducible exact LeO.none _)
      | (with_reducible refine LeO.ite ?_ ?_)
      | (with_reducible refine LeO.bind ?_ (fun _ => ?_))
      | exact ih0 _ _ _ _
      | exact LeO.none _
      | refine LeO.ite ?_ ?_
      | refine LeO.bind ?_ (fun _ => ?_)
theorem slices_Equal_Ev.mono : ∀ a0 a1 k, LeO (slices_Equal_Ev.f k a0 a1) (slices_Equal_Ev.f (k + 1) a0 a1) := by
  intro a0 a1 k
  have ih0 := slices_Equal_Ev.mono_l k
  unfold slices_Equal_Ev.f
  repeat' first
      | (with_reducible exact ih0 _ _ _ _)
      | (with_reducible exact LeO.refl _)
      | (with_reducible exact LeO.none _)
      | (with_reducible refine LeO.ite ?_ ?_)
      | (with_reducible refine LeO.bind ?_ (fun _ => ?_))
      | exact ih0 _ _ _ _
      | exact LeO.none _
      | refine LeO.ite ?_ ?_
      | refine LeO.bind ?_ (fun _ => ?_)
set_option maxHeartbeats 8000000 in
set_option maxRecDepth 100000 in
theorem slices_Equal_Ev.calls (k : Nat) (A0 : Option Addr) (c0 : Nat) (l0 : List (S39)) (A1 : Option Addr) (c1 : Nat) (l1 : List (S39)) (r : Bool) (w : World) (hr0 : Kd.C k39 w A0 l0.length l0) (hc0 : l0.length ≤ c0) (hr1 : Kd.C k39 w A1 l1.length l1) (hc1 : l1.length ≤ c1) (h : slices_Equal_Ev.f k l0 l1 = some r) :
    Calls Try.prog 40 #[.slice A0 l0.length c0, .slice A1 l1.length c1] w fun e w' => e = .returned (.bool r) ∧ Drawn0 w w' := by
  have hu39 := Try.underlying39
  have HR0 := Aside0.mk hr0
  have HC0 := Aside0.mk hc0
  clear hr0 hc0
  have HR1 := Aside0.mk hr1
  have HC1 := Aside0.mk hc1
  clear hr1 hc1
  have H : (if (l0.length : Int) = (l1.length : Int) then (slices_Equal_Ev.l0 k l0 l1 (l0.length : Int) 0) else (some false)) = some r := h
  clear h
  by_cases c3 : (l0.length : Int) = (l1.length : Int)
  · rw [if_pos c3] at H
    have c3b0 : ((l0.length : Int) == (l1.length : Int)) = true := beq_iff_eq.mpr c3
    have c3b1 : ((l0.length : Int) != (l1.length : Int)) = false := bne_eq_false_iff_eq.mpr c3
    have c3b2 : (l0.length == l1.length) = true := by first | simpa using c3 | (simp at c3 ⊢; omega)
    clear c3
    have H' := Aside0.mk H
    clear H
    go_enter Try.func40, Try.ntmps40
    go_wp2
    repeat (go_quiet (fail); try go_wp2)
    go_loopg [13] k (fun kq v13 w' => ∃ (x13_1 : Int), v13 = .int .i64 x13_1 ∧ Aside0 (slices_Equal_Ev.l0 kq l0 l1 (l0.length : Int) x13_1 = some r) ∧ Aside0 (kq ≤ k) ∧ Drawn0 w w')
    case atStart => exact ⟨(0), (by first | rfl | (simp; done) | (simp [*]; done)), H', ⟨Nat.le_refl _⟩, by repeat (first | exact Drawn0.refl _ | apply Drawn0.step)⟩
    case round =>
      clear H'
      try clear c1
      try clear p2
      try clear c3
      try clear c3b0
      try clear c3b1
      try clear c3b2
      obtain ⟨x13_1, rfl, HA, HK1, ⟨m1, rfl⟩⟩ := hrel
      cases gk with
      | zero => exact absurd HA.out (by simp [slices_Equal_Ev.l0])
      | succ k1 =>
        have H := HA.out
        clear HA
        simp only [slices_Equal_Ev.l0] at H
        by_cases c4 : x13_1 < (l0.length : Int)
        · rw [if_pos c4] at H
          have c4b0 : decide (x13_1 < (l0.length : Int)) = true := decide_eq_true c4
          clear c4
          by_cases c5 : 0 ≤ x13_1
          · rw [if_pos c5] at H
            have c5b0 : decide (0 ≤ x13_1) = true := decide_eq_true c5
            clear c5
            by_cases c6 : x13_1 < (l0.length : Int)
            · rw [if_pos c6] at H
              have c6b0 : decide (x13_1 < (l0.length : Int)) = true := decide_eq_true c6
              clear c6
              by_cases c7 : x13_1 < (l1.length : Int)
              · rw [if_pos c7] at H
                have c7b0 : decide (x13_1 < (l1.length : Int)) = true := decide_eq_true c7
                clear c7
                by_cases c8 : (!(((rd_T39 l0 x13_1).f0) == ((rd_T39 l1 x13_1).f0)) || ((!((((rd_T39 l0 x13_1).f1.f0).toList) == (((rd_T39 l1 x13_1).f1.f0).toList)) || (!((((rd_T39 l0 x13_1).f1.f1).toList) == (((rd_T39 l1 x13_1).f1.f1).toList)) || (!(((rd_T39 l0 x13_1).f1.f2) == ((rd_T39 l1 x13_1).f1.f2)) || (!(((rd_T39 l0 x13_1).f1.f3) == ((rd_T39 l1 x13_1).f1.f3)) || (!(((rd_T39 l0 x13_1).f1.f4) == ((rd_T39 l1 x13_1).f1.f4)) || (!(((rd_T39 l0 x13_1).f1.f5) == ((rd_T39 l1 x13_1).f1.f5)) || (!(((rd_T39 l0 x13_1).f1.f6) == ((rd_T39 l1 x13_1).f1.f6)) || (!((((rd_T39 l0 x13_1).f1.f7).toList) == (((rd_T39 l1 x13_1).f1.f7).toList)))))))))) || (!((((rd_T39 l0 x13_1).f2).toList) == (((rd_T39 l1 x13_1).f2).toList))))) = true
                · rw [if_pos c8] at H
                  have c8b0 : (!(((rd_T39 l0 x13_1).f0) == ((rd_T39 l1 x13_1).f0)) || ((!((((rd_T39 l0 x13_1).f1.f0).toList) == (((rd_T39 l1 x13_1).f1.f0).toList)) || (!((((rd_T39 l0 x13_1).f1.f1).toList) == (((rd_T39 l1 x13_1).f1.f1).toList)) || (!(((rd_T39 l0 x13_1).f1.f2) == ((rd_T39 l1 x13_1).f1.f2)) || (!(((rd_T39 l0 x13_1).f1.f3) == ((rd_T39 l1 x13_1).f1.f3)) || (!(((rd_T39 l0 x13_1).f1.f4) == ((rd_T39 l1 x13_1).f1.f4)) || (!(((rd_T39 l0 x13_1).f1.f5) == ((rd_T39 l1 x13_1).f1.f5)) || (!(((rd_T39 l0 x13_1).f1.f6) == ((rd_T39 l1 x13_1).f1.f6)) || (!((((rd_T39 l0 x13_1).f1.f7).toList) == (((rd_T39 l1 x13_1).f1.f7).toList)))))))))) || (!((((rd_T39 l0 x13_1).f2).toList) == (((rd_T39 l1 x13_1).f2).toList))))) = true := c8
                  clear c8
                  obtain rfl := Option.some.inj H
                  have p101 : 0 ≤ (x13_1 : Int) := of_decide_eq_true (by first | (with_reducible assumption) | assumption)
                  have q101 : x13_1 < (l0.length : Int) := of_decide_eq_true (by first | (with_reducible assumption) | assumption)
                  obtain ⟨ad101, e101, hx101_0, hx101_1, hx101_2, hx101_3, hx101_4, hx101_5, hx101_6, hx101_7, hx101_8, hx101_9⟩ := at_T39 HR0.out x13_1 p101 q101
                  cases e101
                  replace p101 := eq_true p101
                  replace q101 := eq_true q101
                  have p102 : 0 ≤ (x13_1 : Int) := of_decide_eq_true (by first | (with_reducible assumption) | assumption)
                  have q102 : x13_1 < (l1.length : Int) := of_decide_eq_true (by first | (with_reducible assumption) | assumption)
                  obtain ⟨ad102, e102, hx102_0, hx102_1, hx102_2, hx102_3, hx102_4, hx102_5, hx102_6, hx102_7, hx102_8, hx102_9⟩ := at_T39 HR1.out x13_1 p102 q102
                  cases e102
                  replace p102 := eq_true p102
                  replace q102 := eq_true q102
                  go_wp2
                  repeat (go_quiet (fail); try go_wp2)
                  go_ret
                  exact ⟨by first | rfl | (simp; done) | (simp [*]; done), by repeat (first | exact Drawn0.refl _ | apply Drawn0.step)⟩
                · rw [if_neg c8] at H
                  have c8b0 : (!(((rd_T39 l0 x13_1).f0) == ((rd_T39 l1 x13_1).f0)) || ((!((((rd_T39 l0 x13_1).f1.f0).toList) == (((rd_T39 l1 x13_1).f1.f0).toList)) || (!((((rd_T39 l0 x13_1).f1.f1).toList) == (((rd_T39 l1 x13_1).f1.f1).toList)) || (!(((rd_T39 l0 x13_1).f1.f2) == ((rd_T39 l1 x13_1).f1.f2)) || (!(((rd_T39 l0 x13_1).f1.f3) == ((rd_T39 l1 x13_1).f1.f3)) || (!(((rd_T39 l0 x13_1).f1.f4) == ((rd_T39 l1 x13_1).f1.f4)) || (!(((rd_T39 l0 x13_1).f1.f5) == ((rd_T39 l1 x13_1).f1.f5)) || (!(((rd_T39 l0 x13_1).f1.f6) == ((rd_T39 l1 x13_1).f1.f6)) || (!((((rd_T39 l0 x13_1).f1.f7).toList) == (((rd_T39 l1 x13_1).f1.f7).toList)))))))))) || (!((((rd_T39 l0 x13_1).f2).toList) == (((rd_T39 l1 x13_1).f2).toList))))) = false := by simpa using c8
                  clear c8
                  have H' := Aside0.mk H
                  clear H
                  have p101 : 0 ≤ (x13_1 : Int) := of_decide_eq_true (by first | (with_reducible assumption) | assumption)
                  have q101 : x13_1 < (l0.length : Int) := of_decide_eq_true (by first | (with_reducible assumption) | assumption)
                  obtain ⟨ad101, e101, hx101_0, hx101_1, hx101_2, hx101_3, hx101_4, hx101_5, hx101_6, hx101_7, hx101_8, hx101_9⟩ := at_T39 HR0.out x13_1 p101 q101
                  cases e101
                  replace p101 := eq_true p101
                  replace q101 := eq_true q101
                  have p102 : 0 ≤ (x13_1 : Int) := of_decide_eq_true (by first | (with_reducible assumption) | assumption)
                  have q102 : x13_1 < (l1.length : Int) := of_decide_eq_true (by first | (with_reducible assumption) | assumption)
                  obtain ⟨ad102, e102, hx102_0, hx102_1, hx102_2, hx102_3, hx102_4, hx102_5, hx102_6, hx102_7, hx102_8, hx102_9⟩ := at_T39 HR1.out x13_1 p102 q102
                  cases e102
                  replace p102 := eq_true p102
                  replace q102 := eq_true q102
                  go_wp2
                  repeat (go_quiet (fail); try go_wp2)
                  go_roundg k1
                  case measure => have := HK1.out; omega
                  case rel => exact ⟨(wrap64 (x13_1 + 1)), (by first | rfl | (simp; done) | (simp [*]; done)), H', ⟨by have := HK1.out; omega⟩, by repeat (first | exact Drawn0.refl _ | apply Drawn0.step)⟩
              · rw [if_neg c7] at H
                exact absurd H (by simp)
            · rw [if_neg c6] at H
              exact absurd H (by simp)
          · rw [if_neg c5] at H
            exact absurd H (by simp)
        · rw [if_neg c4] at H
          have c4b0 : decide (x13_1 < (l0.length : Int)) = false := decide_eq_false c4
          clear c4
          obtain rfl := Option.some.inj H
          go_wp2
          repeat (go_quiet (fail); try go_wp2)
          go_ret
          exact ⟨by first | rfl | (simp; done) | (simp [*]; done), by repeat (first | exact Drawn0.refl _ | apply Drawn0.step)⟩
  · rw [if_neg c3] at H
    have c3b0 : ((l0.length : Int) == (l1.length : Int)) = false := beq_eq_false_iff_ne.mpr c3
    have c3b1 : ((l0.length : Int) != (l1.length : Int)) = true := bne_iff_ne.mpr c3
    have c3b2 : (l0.length == l1.length) = false := by first | simpa using c3 | (simp at c3 ⊢; omega)
    obtain rfl := Option.some.inj H
    go_enter Try.func40, Try.ntmps40
    go_wp2
    repeat (go_quiet (fail); try go_wp2)
    go_ret
    exact ⟨by first | rfl | (simp; done) | (simp [*]; done), by repeat (first | exact Drawn0.refl _ | apply Drawn0.step)⟩

end Go.Proofs.Ytoahjigjlgcjkaa.X
namespace Go.Proofs.Ytoahjigjlgcjkaa.X
open Go.RowKit Go.Proofs.YtoahjigjlgcjkaaW.PrintWords Go.Proofs.YtoahjigjlgcjkaaW.PrintLast Go.Proofs.YtoahjigjlgcjkaaW.PrintMore
attribute [local go_sem] max2_int min2_int max_two min_two
set_option linter.unusedVariables false
set_option linter.unusedSimpArgs false

/-- Where the first row is of which so much is so. -/
def idxRow (pr : List Int → Bool) (l : List (List Int)) : Int := match l.findIdx? pr with
  | none => -1
  | some n => n
theorem idxRow_at {pr : List Int → Bool} {l : List (List Int)} {i : Nat} (hlt : i < l.length) (h : ∀ j, j < i → pr (l.getD j []) = false) (hp : pr (l.getD i []) = true) : idxRow pr l = i := by
  have : l.findIdx? pr = some i := by
    rw [List.findIdx?_eq_some_iff_getElem]
    have e : l.getD i [] = l[i] := by rw [List.getD_eq_getElem?_getD, List.getElem?_eq_getElem hlt]; rfl
    rw [e] at hp
    refine ⟨hlt, hp, fun j hj => ?_⟩
    have := h j hj
    rw [List.getD_eq_getElem?_getD, List.getElem?_eq_getElem (by omega)] at this
    simpa using this
  unfold idxRow
  rw [this]
theorem idxRow_none {pr : List Int → Bool} {l : List (List Int)} (h : ∀ j, j < l.length → pr (l.getD j []) = false) : idxRow pr l = -1 := by
  have : l.findIdx? pr = none := by
    rw [List.findIdx?_eq_none_iff]
    intro x hx
    obtain ⟨j, hj, rfl⟩ := List.mem_iff_getElem.1 hx
    have := h j hj
    rw [List.getD_eq_getElem?_getD, List.getElem?_eq_getElem hj] at this
    exact this
  unfold idxRow
  rw [this]
theorem idxRow_ge {pr : List Int → Bool} {l : List (List Int)} : decide (idxRow pr l ≥ 0) = l.any pr := by
  unfold idxRow
  cases h : l.findIdx? pr with
  | none =>
    have := List.findIdx?_eq_none_iff.1 h
    rw [show l.any pr = false by rw [List.any_eq_false]; intro x hx; simp [this x hx]]
    decide
  | some n =>
    obtain ⟨hn, hp, _⟩ := List.findIdx?_eq_some_iff_getElem.1 h
    rw [show l.any pr = true by rw [List.any_eq_true]; exact ⟨_, List.getElem_mem hn, hp⟩]
    exact decide_eq_true (by show (0 : Int) ≤ (n : Int); omega)
theorem row_cell {w : World} {A : Option Addr} {n : Nat} {xs : List (List Int)} (h : Kd.C (Kd.slice 5 (Kd.int .u8)) w A n xs) (i : Nat) (h1 : i < n) : ∃ ad A0 c0, A = some ad ∧ w.cell? (ad.add i) = some (.slice A0 (xs.getD i []).length c0) ∧ (xs.getD i []).length ≤ c0 ∧ (Kd.int .u8).C w A0 (xs.getD i []).length (xs.getD i []) := by
  obtain ⟨ad, c, e, _, hK, hc0⟩ := Kd.C_get h ([] : List Int) (i : Int) (by omega) (by omega)
  have hc : ∀ j u, c[j]? = some u → w.cell? (ad.add (i * 1 + j)) = some u := hc0
  obtain ⟨A0, c0, rfl, l0, g0⟩ := hK
  exact ⟨ad, A0, c0, e, by have hq := hc 0 _ rfl; rwa [Nat.mul_one, Nat.add_zero] at hq, l0, g0⟩
set_option maxHeartbeats 2000000 in
set_option maxRecDepth 100000 in
theorem slices_IndexFunc_rows.at_ (gf : Nat) (pr : List Int → Bool) (A : Option Addr) (c : Nat) (l : List (List Int)) (w : World) (henter : ∀ args W, (callFunc gf args).run Try.prog W = .ok (.enter gf args) W) (hcb : ∀ B d (x : List Int), Calls Try.prog gf #[.slice B x.length d] w fun e w' => e = .returned (.bool (pr x)) ∧ w = w') (hr : Kd.C (Kd.slice 5 (Kd.int .u8)) w A l.length l) (hc : l.length ≤ c) :
    Calls Try.prog 63 #[.slice A l.length c, .func (.func gf) #[] #[]] w fun e w' => e = .returned (.int .i64 (idxRow pr l)) ∧ w = w' := by
  have hlm : l.length ≤ 9223372036854775807 := hr.2.1
  have HR := Aside0.mk hr
  have HC := Aside0.mk hcb
  have HE := Aside0.mk henter
  clear hr hcb henter
  go_enter Try.func63, Try.ntmps63
  go_wp2
  go_loop [5, 8] (fun _ v8 => ∃ i : Nat, v8 = .int .i64 i ∧ i ≤ l.length ∧ Aside0 (∀ j, j < i → pr (l.getD j []) = false)) (fun _ v8 => l.length - (intOf v8).toNat)
  case atStart => exact ⟨0, rfl, Nat.zero_le _, ⟨fun j hj => absurd hj (Nat.not_lt_zero _)⟩⟩
  case round =>
    obtain ⟨i, rfl, hi, HP⟩ := hrel
    by_cases hlt : i < l.length
    · obtain ⟨ad, B, d, rfl, hx, _, _⟩ := row_cell HR.out i hlt
      have hnn : (0 : Int) ≤ (i : Int) := by omega
      have hlt2 : (i : Int) < (l.length : Int) := by omega
      have hcall := HC.out B d (l.getD i [])
      have heg := HE.out
      generalize hg : l.getD i [] = x at hx hcall
      have HG := Aside0.mk hg
      clear hg
      cases hp : pr x
      · rw [hp] at hcall
        have HP2 := Aside0.mk hp
        clear hp
        go_wp2_with (fail)
        refine hcall.mono ?_
        rintro e w2 ⟨rfl, rfl⟩
        clear hcall heg hx
        go_wp2
        go_round
        case rel => exact ⟨i + 1, by go_num, by omega, ⟨fun j hj => by
          rcases Nat.lt_or_ge j i with c1 | c1
          · exact HP.out j c1
          · obtain rfl : j = i := by omega
            rw [HG.out]; exact HP2.out⟩⟩
        case measure => simp [intOf]; omega
      · rw [hp] at hcall
        have HP2 := Aside0.mk hp
        clear hp
        go_wp2_with (fail)
        refine hcall.mono ?_
        rintro e w2 ⟨rfl, rfl⟩
        clear hcall heg hx
        go_wp2
        go_ret
        refine ⟨?_, rfl⟩
        rw [idxRow_at hlt HP.out (by rw [HG.out]; exact HP2.out)]
        rfl
    · go_wp2
      go_ret
      refine ⟨?_, rfl⟩
      rw [idxRow_none (fun j hj => HP.out j (by omega))]
      rfl
end Go.Proofs.Ytoahjigjlgcjkaa.X
namespace Go.Proofs.Ytoahjigjlgcjkaa.X
open Go.RowKit Go.Proofs.YtoahjigjlgcjkaaW.PrintWords Go.Proofs.YtoahjigjlgcjkaaW.PrintLast Go.Proofs.YtoahjigjlgcjkaaW.PrintMore
attribute [local go_sem] max2_int min2_int max_two min_two
set_option linter.unusedVariables false
set_option linter.unusedSimpArgs false

set_option maxRecDepth 100000 in
theorem slices_ContainsFunc_rows.at_ (gf : Nat) (pr : List Int → Bool) (A : Option Addr) (c : Nat) (l : List (List Int)) (w : World) (henter : ∀ args W, (callFunc gf args).run Try.prog W = .ok (.enter gf args) W) (hcb : ∀ B d (x : List Int), Calls Try.prog gf #[.slice B x.length d] w fun e w' => e = .returned (.bool (pr x)) ∧ w = w') (hr : Kd.C (Kd.slice 5 (Kd.int .u8)) w A l.length l) (hc : l.length ≤ c) :
    Calls Try.prog 38 #[.slice A l.length c, .func (.func gf) #[] #[]] w fun e w' => e = .returned (.bool (l.any pr)) ∧ w = w' := by
  have hix := slices_IndexFunc_rows.at_ gf pr A c l w henter hcb hr hc
  have HG := Aside0.mk (idxRow_ge (pr := pr) (l := l))
  generalize idxRow pr l = ix at hix HG
  clear henter hcb hr
  go_enter Try.func38, Try.ntmps38
  go_wp2_with (go_at_call 63; refine hix.mono ?_; rintro e w' ⟨rfl, rfl⟩)
  go_ret
  exact ⟨by rw [← HG.out]; rfl, rfl⟩
end Go.Proofs.Ytoahjigjlgcjkaa.X
namespace Go.Proofs.Ytoahjigjlgcjkaa.X
open Go.RowKit Go.Proofs.YtoahjigjlgcjkaaW.PrintWords Go.Proofs.YtoahjigjlgcjkaaW.PrintLast Go.Proofs.YtoahjigjlgcjkaaW.PrintMore
attribute [local go_sem] max2_int min2_int max_two min_two
set_option linter.unusedVariables false
set_option linter.unusedSimpArgs false

open Go.Proofs.YtoahjigjlgcjkaaY
/-- A row of bytes. -/
abbrev kRow : Kd (List Int) := Kd.slice 5 (Kd.int .u8)
theorem kRow_M {w : World} {base : Nat} {ok : Nat → Prop} {x : List Int} {cs : List Value} (h : kRow.M w base ok x cs) : ∃ v, cs = [v] ∧ Kd.R (Kd.int .u8) 5 w base ok v x := h
set_option maxHeartbeats 1600000 in
set_option maxRecDepth 100000 in
theorem slices_Grow.at_ (n : Nat) (hn : n ≤ 1000000) (w : World) :
    Calls Try.prog 90 #[.slice none 0 0, .int .i64 n] w fun e w' => ∃ A c, e = .returned (.slice A 0 c) ∧ Kd.R kRow 26 w' w.heap.size (fun _ => True) (.slice A 0 c) [] ∧ Below w.heap.size w w' := by
  rcases Nat.eq_zero_or_pos n with rfl | hp
  · go_enter Try.func90, Try.ntmps90
    go_wp2
    go_ret
    exact ⟨none, 0, rfl, Kd.R_nil _ _ _ _ _, Below.refl _ _⟩
  · have h1 : decide ((n : Int) < 0) = false := decide_eq_false (by omega)
    have h2 : decide ((n : Int) > 0) = true := decide_eq_true (by omega)
    have h3 : decide (0 < n) = true := decide_eq_true hp
    clear hp
    go_enter Try.func90, Try.ntmps90
    go_wp2_with (at_builtin; refine Kd.R_append_zeros kRow (w0 := w) w.heap.size rfl (.tmp 20) (.tmp 21) 34 3 26 (.slice none 0 0) 24 rfl Try.underlying34 Try.underlying3 info26 rfl (by decide) (by decide) _ [] [] n (fun _ => True) rfl rfl ⟨_, rfl, Kd.R_nil _ _ _ _ _⟩ (fun _ _ => trivial) (Kd.R_nil _ _ _ _ _) (by omega) (Below.refl _ _) (Nat.le_refl _) (by simp; omega) ?_; intro v1 w1 ho hb hg hat; obtain ⟨A1, c1, rfl⟩ := Kd.R_slice ho; clear hg hat)
    go_ret
    exact ⟨A1, c1, rfl, Kd.R_take ho (m := 0) (Nat.zero_le _), hb⟩
def rdR (xs : List (List Int)) (i : Nat) : List Int := xs.getD i []
theorem at_row {w : World} {A : Option Addr} {n : Nat} {xs : List (List Int)} (h : Kd.C (Kd.slice 5 (Kd.int .u8)) w A n xs) (i : Nat) (h1 : i < n) : ∃ ad A0 c0, A = some ad ∧ w.cell? (ad.add i) = some (.slice A0 (rdR xs i).length c0) ∧ (rdR xs i).length ≤ c0 ∧ (Kd.int .u8).C w A0 (rdR xs i).length (rdR xs i) := by
  obtain ⟨ad, c, e, _, hK, hc0⟩ := Kd.C_get h ([] : List Int) (i : Int) (by omega) (by omega)
  have hc : ∀ j u, c[j]? = some u → w.cell? (ad.add (i * 1 + j)) = some u := hc0
  obtain ⟨A0, c0, rfl, l0, g0⟩ := hK
  exact ⟨ad, A0, c0, e, by have hq := hc 0 _ rfl; rwa [Nat.mul_one, Nat.add_zero] at hq, l0, g0⟩
/-- What is handed to Concat: each list a slice of rows that were made. -/
structure InRow (base : Nat) (w : World) (x : Option Addr × Nat × List (List Int)) : Prop where
  cap : x.2.2.length ≤ x.2.1
  row : ReadsRow (kRow.M w base (fun _ => True)) 1 w x.1 x.2.2.length x.2.2
theorem InRow.of_R {e base b : Nat} {ok : Nat → Prop} {w : World} {v : Value} {xs : List (List Int)} (h : Kd.R kRow e w base ok v xs) (hb : b ≤ base) : ∃ A c, v = .slice A xs.length c ∧ InRow b w (A, c, xs) := by
  obtain ⟨_, ho⟩ := h
  obtain ⟨A, c, hv, hl, hr⟩ := OwnRow.reads ho
  exact ⟨A, c, hv, hl, hr.imp_ (Below.refl _ _) (fun _ _ hp => kRow.M_lower hb (kRow.M_mono (fun _ _ => trivial) hp))⟩
theorem InRow.below {base : Nat} {w w' : World} {x : Option Addr × Nat × List (List Int)} (h : InRow base w x) (hb : Below w.heap.size w w') : InRow base w' x :=
  ⟨h.cap, h.row.imp_ hb (fun _ _ hp => Kd.M_below hp hb)⟩
def inV (x : Option Addr × Nat × List (List Int)) : Value := .slice x.1 x.2.2.length x.2.1
def totalL (xs : List (Option Addr × Nat × List (List Int))) : Nat := (xs.map (fun x => x.2.2.length)).sum
def flatL (xs : List (Option Addr × Nat × List (List Int))) : List (List Int) := (xs.map (fun x => x.2.2)).flatten
theorem totalL_flat (xs : List (Option Addr × Nat × List (List Int))) : (flatL xs).length = totalL xs := by
  unfold flatL totalL
  rw [List.length_flatten, List.map_map]
  rfl
theorem totalL_snoc (xs : List (Option Addr × Nat × List (List Int))) (x : Option Addr × Nat × List (List Int)) : totalL (xs ++ [x]) = totalL xs + x.2.2.length := by simp [totalL]
theorem flatL_snoc (xs : List (Option Addr × Nat × List (List Int))) (x : Option Addr × Nat × List (List Int)) : flatL (xs ++ [x]) = flatL xs ++ x.2.2 := by simp [flatL]
theorem totalL_take (xs : List (Option Addr × Nat × List (List Int))) (k : Nat) : totalL (xs.take k) ≤ totalL xs := by
  have := congrArg totalL (List.take_append_drop k xs)
  unfold totalL at this ⊢
  rw [List.map_append, List.sum_append] at this
  omega
set_option maxHeartbeats 1600000 in
set_option maxRecDepth 100000 in
theorem slices_Concat.at_ (base b : Nat) (xs : List (Option Addr × Nat × List (List Int))) (w : World) (hb : w.heap[b]? = some (.cells (xs.map inV).toArray 34 (0, 0))) (hxs : ∀ x ∈ xs, InRow base w x) (hl : totalL xs ≤ 100000) (hn : xs.length ≤ 1000) (hbase : base ≤ w.heap.size) :
    Calls Try.prog 71 #[.slice (some ⟨b, 0, none⟩) xs.length xs.length] w fun e w' => ∃ v, e = .returned v ∧ Kd.R kRow 26 w' base (fun _ => True) v (flatL xs) ∧ Below w.heap.size w w' := by
  have HB := Aside0.mk hb
  have HXS := Aside0.mk hxs
  have HBS := Aside0.mk hbase
  clear hb hxs hbase
  have hgrow := fun W => slices_Grow.at_ (totalL xs) (by omega) W
  obtain ⟨tot, htot⟩ : ∃ tot, totalL xs = tot := ⟨_, rfl⟩
  rw [htot] at hgrow hl
  have HTOT := Aside0.mk htot
  have HL := Aside0.mk hl
  clear htot
  go_enter Try.func71, Try.ntmps71
  go_wp2
  go_loop [3, 11] (fun v3 v11 => ∃ k : Nat, v11 = .int .i64 k ∧ k ≤ xs.length ∧ v3 = .int .i64 (totalL (xs.take k) : Nat)) (fun _ v11 => xs.length - (intOf v11).toNat)
  case atStart => exact ⟨0, rfl, Nat.zero_le _, rfl⟩
  case round =>
    obtain ⟨k, rfl, hk, rfl⟩ := hrel
    by_cases hlt : k < xs.length
    · have htk : totalL (xs.take (k + 1)) = totalL (xs.take k) + xs[k].2.2.length := by rw [List.take_succ_eq_append_getElem hlt, totalL_snoc]
      have htl := totalL_take xs (k + 1)
      have hcell : w.cell? ⟨b, k, none⟩ = some (inV xs[k]) := by rw [blk_cell HB.out k, List.getElem?_toArray, List.getElem?_map, List.getElem?_eq_getElem hlt]; rfl
      rw [HTOT.out] at htl
      generalize xs[k] = x at *
      obtain ⟨xa, xc, xl⟩ := x
      simp only [inV] at hcell htk
      obtain ⟨t, ht⟩ : ∃ t, totalL (xs.take k) = t := ⟨_, rfl⟩
      rw [ht] at htk ⊢
      have hb1 : t + xl.length ≤ 100000 := by omega
      have HTK := Aside0.mk htk
      have hlt2 : (k : Int) < (xs.length : Int) := by omega
      have hk0 : (0 : Int) ≤ (k : Int) := by omega
      have hnn : decide ((t : Int) + (xl.length : Int) < 0) = false := decide_eq_false (by omega)
      clear htk htl ht
      go_wp2
      go_round
      case rel => exact ⟨k + 1, by go_num, by omega, by rw [HTK.out]; go_num⟩
      case measure => simp [intOf]; omega
    · obtain rfl : k = xs.length := by omega
      have ht : totalL (xs.take xs.length) = tot := by rw [List.take_length]; exact HTOT.out
      rw [ht]
      clear ht
      go_wp2_with (first | (go_at_call 90; refine (hgrow _).mono ?_; rintro e w1 ⟨A1, c1, rfl, hR1, hb1⟩))
      have HR1 := Aside0.mk (Kd.R_lower (base' := base) hR1 HBS.out)
      have HB1 := Aside0.mk hb1
      have HO1 := Aside0.mk (Kd.R_base hR1)
      clear hR1 hb1 hgrow
      go_loopw [6, 27] (fun v6 v27 wr => ∃ k : Nat, v27 = .int .i64 k ∧ k ≤ xs.length ∧ (∃ A n c, v6 = .slice A n c) ∧ Aside0 (Kd.R kRow 26 wr base (fun _ => True) v6 (flatL (xs.take k))) ∧ Aside0 (∀ j, v6.ownBlock = some j → w.heap.size ≤ j) ∧ Aside0 (Below w.heap.size w wr)) (fun _ v27 _ => xs.length - (intOf v27).toNat)
      case atStart => exact ⟨0, rfl, Nat.zero_le _, ⟨_, _, _, rfl⟩, HR1, HO1, HB1⟩
      case round =>
        obtain ⟨k, rfl, hk, ⟨A6, n6, c6, rfl⟩, HR, HO, HBW⟩ := hrel
        clear HR1 HO1 HB1
        by_cases hlt : k < xs.length
        · have hcell : wr.cell? ⟨b, k, none⟩ = some (inV xs[k]) := by rw [blk_cell (blk_below HB.out HBW.out) k, List.getElem?_toArray, List.getElem?_map, List.getElem?_eq_getElem hlt]; rfl
          have hin := (HXS.out xs[k] (List.getElem_mem hlt))
          have htk : flatL (xs.take (k + 1)) = flatL (xs.take k) ++ xs[k].2.2 := by rw [List.take_succ_eq_append_getElem hlt, flatL_snoc]
          have htl := totalL_take xs (k + 1)
          rw [← totalL_flat, htk, List.length_append] at htl
          generalize xs[k] = x at *
          obtain ⟨xa, xc, xl⟩ := x
          simp only [inV] at hcell htk htl
          have hrow : ReadsRow (kRow.M wr base (fun k => k < w.heap.size)) 1 wr xa xl.length xl := hin.row.imp_ HBW.out (fun x cs hp => Kd.M_below (kRow.M_mono (fun _ hk => hk.2.2.1) (kRow.M_bound hp)) HBW.out)
          have HRW := Aside0.mk hrow
          have HTK := Aside0.mk htk
          have hbd : (flatL (xs.take k)).length + xl.length ≤ 100000 := by have := HTOT.out; have := HL.out; omega
          have HBD := Aside0.mk hbd
          have hlt2 : (k : Int) < (xs.length : Int) := by omega
          have hk0 : (0 : Int) ≤ (k : Int) := by omega
          have hbs : base ≤ wr.heap.size := Nat.le_trans HBS.out HBW.out.size
          have HKO := Aside0.mk (show ∀ j, j < w.heap.size → True ∧ some j ≠ (Value.slice A6 n6 c6).ownBlock from fun j hj => ⟨trivial, fun e => by have := HO.out j e.symm; omega⟩)
          clear hrow htk htl hin hbd
          go_wp2_with (at_builtin; refine Kd.R_append_rows kRow (w0 := w) base rfl (.tmp 31) (.tmp 32) 34 26 (.slice none 0 0) 24 rfl Try.underlying34 info26 rfl (by decide) (by decide) _ (flatL (xs.take k)) xl xa xl.length xc (fun _ => True) (fun k => k < w.heap.size) rfl rfl HR.out HRW.out (fun _ _ h => h) HKO.out (fun _ _ => trivial) (HBW.out.mono HBS.out) hbs (by have := HBD.out; omega) ?_; intro v1 w1 ho hb hg hat; obtain ⟨A7, c7, rfl⟩ := Kd.R_slice ho)
          go_roundw
          case rel =>
            refine ⟨k + 1, by go_num, by omega, ⟨_, _, _, rfl⟩, ⟨?_⟩, ⟨?_⟩, ⟨?_⟩⟩
            · rw [HTK.out]
              simpa using ho
            · intro j hj
              have hj2 : (Value.slice A7 (flatL (xs.take k) ++ xl).length c7).ownBlock = some j := by
                rw [← hj]; cases A7 <;> rfl
              rcases hat with hat | ⟨b', hb', hle⟩
              · rw [hat] at hj2; exact HO.out j hj2
              · rw [hb'] at hj2; injection hj2 with hj2; have := HBW.out.size; omega
            · exact HBW.out.grown hg HBW.out.size (fun j hj => HO.out j hj)
          case measure => simp [intOf]; omega
        · obtain rfl : k = xs.length := by omega
          have hR := HR.out
          rw [List.take_length] at hR
          have HRR := Aside0.mk hR
          clear hR
          go_wp2_with (fail)
          go_ret
          exact ⟨_, rfl, HRR.out, HBW.out⟩

end Go.Proofs.Ytoahjigjlgcjkaa.X
