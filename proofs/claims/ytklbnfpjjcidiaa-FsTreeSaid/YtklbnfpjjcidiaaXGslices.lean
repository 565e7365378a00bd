import Derived.Test.YtklbnfpjjcidiaaXK
import Derived.Test.YtklbnfpjjcidiaaXE26
namespace Go.Proofs.Ytklbnfpjjcidiaa.X
open Go.RowKit Go.Proofs.YtklbnfpjjcidiaaW.PrintWords Go.Proofs.YtklbnfpjjcidiaaW.PrintLast Go.Proofs.YtklbnfpjjcidiaaW.PrintMore
attribute [local go_sem] max2_int min2_int max_two min_two
set_option linter.unusedVariables false
set_option linter.unusedSimpArgs false

def nodeV (x : S26) : Value := .agg #[.string x.f0, .string x.f1, .int .u8 x.f2, .int .i64 x.f3, .int .i64 x.f4, .int .i64 x.f5, .int .i64 x.f6, .string x.f7]
/-- What a function that is handed a node owes, where K holds: it tells pr, and leaves alone what was there. -/
def NodeAsk (gf : Nat) (lb : Array Value) (l : List S26) (pr : S26 → Bool) (K : World → Prop) : Prop :=
  (∀ A B, K A → Below A.heap.size A B → K B) ∧ (∀ args W, (callFunc gf args).run Try.prog W = .ok (.enter gf args) W) ∧ ∀ x, x ∈ l → ∀ W, K W → Calls Try.prog gf (#[nodeV x] ++ lb) W fun e w' => e = .returned (.bool (pr x)) ∧ Below W.heap.size W w'
def idxOf {α : Type} (pr : α → Bool) (l : List α) : Int := match l.findIdx? pr with
  | none => -1
  | some n => n
theorem idxOf_at {α : Type} {pr : α → Bool} {l : List α} {i : Nat} (hlt : i < l.length) (h : (l.take i).all (fun x => !pr x) = true) (hp : pr l[i] = true) : idxOf pr l = i := by
  have : l.findIdx? pr = some i := by
    rw [List.findIdx?_eq_some_iff_getElem]
    refine ⟨hlt, hp, fun j hj => ?_⟩
    have := List.all_eq_true.1 h l[j] (by rw [List.mem_take_iff_getElem]; exact ⟨j, by omega, rfl⟩)
    simpa using this
  unfold idxOf
  rw [this]
theorem idxOf_none {α : Type} {pr : α → Bool} {l : List α} (h : l.all (fun x => !pr x) = true) : idxOf pr l = -1 := by
  have : l.findIdx? pr = none := by
    rw [List.findIdx?_eq_none_iff]
    intro x hx
    have := List.all_eq_true.1 h x hx
    simpa using this
  unfold idxOf
  rw [this]
set_option maxHeartbeats 2000000 in
set_option maxRecDepth 100000 in
theorem slices_IndexFunc_Node.at_ (gf : Nat) (lb : Array Value) (pr : S26 → Bool) (K : World → Prop) (A : Option Addr) (c : Nat) (l : List S26) (hcb : NodeAsk gf lb l pr K) (w : World) (hr : Kd.C k26 w A l.length l) (hk : K w) :
    Calls Try.prog 49 #[.slice A l.length c, .func (.func gf) #[] lb] w fun e w' => e = .returned (.int .i64 (idxOf pr l)) ∧ Below w.heap.size w w' := by
  have hlm : l.length ≤ 9223372036854775807 := hr.2.1
  have HR := Aside0.mk hr
  clear hr
  have HK := Aside0.mk hk
  clear hk
  have HC := Aside0.mk hcb
  clear hcb
  go_enter Try.func49, Try.ntmps49
  go_wp2
  go_loopw [5, 8] (fun _ v8 wr => ∃ i : Nat, v8 = .int .i64 i ∧ i ≤ l.length ∧ Aside0 ((l.take i).all (fun x => !pr x) = true) ∧ Aside0 (Below w.heap.size w wr)) (fun _ v8 _ => l.length - (intOf v8).toNat)
  case atStart => exact ⟨0, rfl, Nat.zero_le _, ⟨rfl⟩, ⟨Below.refl _ _⟩⟩
  case round =>
    obtain ⟨i, rfl, hi, HP, HB⟩ := hrel
    by_cases hlt : i < l.length
    · have hnn : (0 : Int) ≤ (i : Int) := by omega
      have hlt2 : (i : Int) < (l.length : Int) := by omega
      obtain ⟨ad, rfl, x0, x1, x2, x3, x4, x5, x6, x7⟩ := at_T26 (Kd.C_below HR.out HB.out) (i : Int) (by omega) (by omega)
      simp only [Int.toNat_natCast] at x0 x1 x2 x3 x4 x5 x6 x7
      have heg := HC.out.2.1
      have hcall := HC.out.2.2 (rd_T26 l i) (by unfold rd_T26; simp [List.getD, List.getElem?_eq_getElem hlt]) wr (HC.out.1 _ _ HK.out HB.out)
      have hg : rd_T26 l (i : Int) = l[i] := by unfold rd_T26; simp [List.getD, List.getElem?_eq_getElem hlt]
      have htk : l.take (i + 1) = l.take i ++ [l[i]] := by rw [List.take_succ_eq_append_getElem hlt]
      have HG := Aside0.mk hg
      have HT := Aside0.mk htk
      clear hg htk
      cases hp : pr (rd_T26 l (i : Int))
      · rw [hp] at hcall
        have HP2 := Aside0.mk hp
        clear hp
        go_wp2_with (fail)
        refine hcall.mono ?_
        rintro e w2 ⟨rfl, hb⟩
        have HB2 := Aside0.mk (below_then HB.out HB.out.size hb)
        clear hb hcall heg x0 x1 x2 x3 x4 x5 x6 x7
        go_wp2
        go_roundw
        case rel => exact ⟨i + 1, by go_num, by omega, ⟨by rw [HT.out, List.all_append, HP.out, ← HG.out]; simp [HP2.out]⟩, HB2⟩
        case measure => simp [intOf]; omega
      · rw [hp] at hcall
        have HP2 := Aside0.mk hp
        clear hp
        go_wp2_with (fail)
        refine hcall.mono ?_
        rintro e w2 ⟨rfl, hb⟩
        have HB2 := Aside0.mk (below_then HB.out HB.out.size hb)
        clear hb hcall heg x0 x1 x2 x3 x4 x5 x6 x7
        go_wp2
        go_ret
        refine ⟨?_, HB2.out⟩
        rw [idxOf_at hlt HP.out (by rw [← HG.out]; exact HP2.out)]
        rfl
    · go_wp2
      go_ret
      refine ⟨?_, HB.out⟩
      rw [idxOf_none (by have := HP.out; rwa [List.take_of_length_le (by omega)] at this)]
      rfl
end Go.Proofs.Ytklbnfpjjcidiaa.X
namespace Go.Proofs.Ytklbnfpjjcidiaa.X
open Go.RowKit Go.Proofs.YtklbnfpjjcidiaaW.PrintWords Go.Proofs.YtklbnfpjjcidiaaW.PrintLast Go.Proofs.YtklbnfpjjcidiaaW.PrintMore
attribute [local go_sem] max2_int min2_int max_two min_two
set_option linter.unusedVariables false
set_option linter.unusedSimpArgs false

attribute [local go_sem high] eqA26
/-! ### slices_Equal_Node: function 42 -/
def slices_Equal_Node.l0 : Nat → List (S26) → List (S26) → Int → Int → Option (Bool)
  | 0, _, _, _, _ => none
  | k + 1, x0, x1, x12, x13 => if x13 < x12 then (if 0 ≤ x13 then (if x13 < (x0.length : Int) then (if x13 < (x1.length : Int) then (if (!((((rd_T26 x0 x13).f0).toList) == (((rd_T26 x1 x13).f0).toList)) || (!((((rd_T26 x0 x13).f1).toList) == (((rd_T26 x1 x13).f1).toList)) || (!(((rd_T26 x0 x13).f2) == ((rd_T26 x1 x13).f2)) || (!(((rd_T26 x0 x13).f3) == ((rd_T26 x1 x13).f3)) || (!(((rd_T26 x0 x13).f4) == ((rd_T26 x1 x13).f4)) || (!(((rd_T26 x0 x13).f5) == ((rd_T26 x1 x13).f5)) || (!(((rd_T26 x0 x13).f6) == ((rd_T26 x1 x13).f6)) || (!((((rd_T26 x0 x13).f7).toList) == (((rd_T26 x1 x13).f7).toList)))))))))) = true then (some false) else (slices_Equal_Node.l0 k x0 x1 x12 (wrap64 (x13 + 1)))) else (none)) else (none)) else (none)) else (some true)
def slices_Equal_Node.f (k : Nat) (l0 : List (S26)) (l1 : List (S26)) : Option (Bool) := if (l0.length : Int) = (l1.length : Int) then (slices_Equal_Node.l0 k l0 l1 (l0.length : Int) 0) else (some false)
theorem slices_Equal_Node.mono_l : ∀ k, (∀ y0 y1 y2 y3, LeO (slices_Equal_Node.l0 k y0 y1 y2 y3) (slices_Equal_Node.l0 (k + 1) y0 y1 y2 y3))
  | 0 => fun _ _ _ _ r h => by simp [slices_Equal_Node.l0] at h
  | k + 1 => by
    have ih0 := slices_Equal_Node.mono_l k
    · intro y0 y1 y2 y3
      unfold slices_Equal_Node.l0
      repeat' first
      | (with_reducible exact ih0 _ _ _ _)
      | (with_reducible exact LeO.refl _)
      | (with_reducible exact LeO.none _)
      | (with_reducible refine LeO.ite ?_ ?_)
      | (with_reducible refine LeO.bind ?_ (fun _ => ?_))
      | exact ih0 _ _ _ _
      | exact LeO.none _
      | refine LeO.ite ?_ ?_
      | refine LeO.bind ?_ (fun _ => ?_)
theorem slices_Equal_Node.mono : ∀ a0 a1 k, LeO (slices_Equal_Node.f k a0 a1) (slices_Equal_Node.f (k + 1) a0 a1) := by
  intro a0 a1 k
  have ih0 := slices_Equal_Node.mono_l k
  unfold slices_Equal_Node.f
  repeat' first
      | (with_reducible exact ih0 _ _ _ _)
      | (with_reducible exact LeO.refl _)
      | (with_reducible exact LeO.none _)
      | (with_reducible refine LeO.ite ?_ ?_)
      | (with_reducible refine LeO.bind ?_ (fun _ => ?_))
      | exact ih0 _ _ _ _
      | exact LeO.none _
      | refine LeO.ite ?_ ?_
      | refine LeO.bind ?_ (fun _ => ?_)
set_option maxHeartbeats 8000000 in
set_option maxRecDepth 100000 in
theorem slices_Equal_Node.calls (k : Nat) (A0 : Option Addr) (c0 : Nat) (l0 : List (S26)) (A1 : Option Addr) (c1 : Nat) (l1 : List (S26)) (r : Bool) (w : World) (hr0 : Kd.C k26 w A0 l0.length l0) (hc0 : l0.length ≤ c0) (hr1 : Kd.C k26 w A1 l1.length l1) (hc1 : l1.length ≤ c1) (h : slices_Equal_Node.f k l0 l1 = some r) :
    Calls Try.prog 42 #[.slice A0 l0.length c0, .slice A1 l1.length c1] w fun e w' => e = .returned (.bool r) ∧ Drawn0 w w' := by
  have hu26 := Try.underlying26
  have HR0 := Aside0.mk hr0
  have HC0 := Aside0.mk hc0
  clear hr0 hc0
  have HR1 := Aside0.mk hr1
  have HC1 := Aside0.mk hc1
  clear hr1 hc1
  have H : (if (l0.length : Int) = (l1.length : Int) then (slices_Equal_Node.l0 k l0 l1 (l0.length : Int) 0) else (some false)) = some r := h
  clear h
  by_cases c3 : (l0.length : Int) = (l1.length : Int)
  · rw [if_pos c3] at H
    have c3b0 : ((l0.length : Int) == (l1.length : Int)) = true := beq_iff_eq.mpr c3
    have c3b1 : ((l0.length : Int) != (l1.length : Int)) = false := bne_eq_false_iff_eq.mpr c3
    have c3b2 : (l0.length == l1.length) = true := by first | simpa using c3 | (simp at c3 ⊢; omega)
    clear c3
    have H' := Aside0.mk H
    clear H
    go_enter Try.func42, Try.ntmps42
    go_wp2
    repeat (go_quiet (fail); try go_wp2)
    go_loopg [13] k (fun kq v13 w' => ∃ (x13_1 : Int), v13 = .int .i64 x13_1 ∧ Aside0 (slices_Equal_Node.l0 kq l0 l1 (l0.length : Int) x13_1 = some r) ∧ Aside0 (kq ≤ k) ∧ Drawn0 w w')
    case atStart => exact ⟨(0), (by first | rfl | (simp; done) | (simp [*]; done)), H', ⟨Nat.le_refl _⟩, by repeat (first | exact Drawn0.refl _ | apply Drawn0.step)⟩
    case round =>
      clear H'
      try clear c1
      try clear p2
      try clear c3
      try clear c3b0
      try clear c3b1
      try clear c3b2
      obtain ⟨x13_1, rfl, HA, HK1, ⟨m1, rfl⟩⟩ := hrel
      cases gk with
      | zero => exact absurd HA.out (by simp [slices_Equal_Node.l0])
      | succ k1 =>
        have H := HA.out
        clear HA
        simp only [slices_Equal_Node.l0] at H
        by_cases c4 : x13_1 < (l0.length : Int)
        · rw [if_pos c4] at H
          have c4b0 : decide (x13_1 < (l0.length : Int)) = true := decide_eq_true c4
          clear c4
          by_cases c5 : 0 ≤ x13_1
          · rw [if_pos c5] at H
            have c5b0 : decide (0 ≤ x13_1) = true := decide_eq_true c5
            clear c5
            by_cases c6 : x13_1 < (l0.length : Int)
            · rw [if_pos c6] at H
              have c6b0 : decide (x13_1 < (l0.length : Int)) = true := decide_eq_true c6
              clear c6
              by_cases c7 : x13_1 < (l1.length : Int)
              · rw [if_pos c7] at H
                have c7b0 : decide (x13_1 < (l1.length : Int)) = true := decide_eq_true c7
                clear c7
                by_cases c8 : (!((((rd_T26 l0 x13_1).f0).toList) == (((rd_T26 l1 x13_1).f0).toList)) || (!((((rd_T26 l0 x13_1).f1).toList) == (((rd_T26 l1 x13_1).f1).toList)) || (!(((rd_T26 l0 x13_1).f2) == ((rd_T26 l1 x13_1).f2)) || (!(((rd_T26 l0 x13_1).f3) == ((rd_T26 l1 x13_1).f3)) || (!(((rd_T26 l0 x13_1).f4) == ((rd_T26 l1 x13_1).f4)) || (!(((rd_T26 l0 x13_1).f5) == ((rd_T26 l1 x13_1).f5)) || (!(((rd_T26 l0 x13_1).f6) == ((rd_T26 l1 x13_1).f6)) || (!((((rd_T26 l0 x13_1).f7).toList) == (((rd_T26 l1 x13_1).f7).toList)))))))))) = true
                · rw [if_pos c8] at H
                  have c8b0 : (!((((rd_T26 l0 x13_1).f0).toList) == (((rd_T26 l1 x13_1).f0).toList)) || (!((((rd_T26 l0 x13_1).f1).toList) == (((rd_T26 l1 x13_1).f1).toList)) || (!(((rd_T26 l0 x13_1).f2) == ((rd_T26 l1 x13_1).f2)) || (!(((rd_T26 l0 x13_1).f3) == ((rd_T26 l1 x13_1).f3)) || (!(((rd_T26 l0 x13_1).f4) == ((rd_T26 l1 x13_1).f4)) || (!(((rd_T26 l0 x13_1).f5) == ((rd_T26 l1 x13_1).f5)) || (!(((rd_T26 l0 x13_1).f6) == ((rd_T26 l1 x13_1).f6)) || (!((((rd_T26 l0 x13_1).f7).toList) == (((rd_T26 l1 x13_1).f7).toList)))))))))) = true := c8
                  clear c8
                  obtain rfl := Option.some.inj H
                  have p101 : 0 ≤ (x13_1 : Int) := of_decide_eq_true (by first | (with_reducible assumption) | assumption)
                  have q101 : x13_1 < (l0.length : Int) := of_decide_eq_true (by first | (with_reducible assumption) | assumption)
                  obtain ⟨ad101, e101, hx101_0, hx101_1, hx101_2, hx101_3, hx101_4, hx101_5, hx101_6, hx101_7⟩ := at_T26 HR0.out x13_1 p101 q101
                  cases e101
                  replace p101 := eq_true p101
                  replace q101 := eq_true q101
                  have p102 : 0 ≤ (x13_1 : Int) := of_decide_eq_true (by first | (with_reducible assumption) | assumption)
                  have q102 : x13_1 < (l1.length : Int) := of_decide_eq_true (by first | (with_reducible assumption) | assumption)
                  obtain ⟨ad102, e102, hx102_0, hx102_1, hx102_2, hx102_3, hx102_4, hx102_5, hx102_6, hx102_7⟩ := at_T26 HR1.out x13_1 p102 q102
                  cases e102
                  replace p102 := eq_true p102
                  replace q102 := eq_true q102
                  go_wp2
                  repeat (go_quiet (fail); try go_wp2)
                  go_ret
                  exact ⟨by first | rfl | (simp; done) | (simp [*]; done), by repeat (first | exact Drawn0.refl _ | apply Drawn0.step)⟩
                · rw [if_neg c8] at H
                  have c8b0 : (!((((rd_T26 l0 x13_1).f0).toList) == (((rd_T26 l1 x13_1).f0).toList)) || (!((((rd_T26 l0 x13_1).f1).toList) == (((rd_T26 l1 x13_1).f1).toList)) || (!(((rd_T26 l0 x13_1).f2) == ((rd_T26 l1 x13_1).f2)) || (!(((rd_T26 l0 x13_1).f3) == ((rd_T26 l1 x13_1).f3)) || (!(((rd_T26 l0 x13_1).f4) == ((rd_T26 l1 x13_1).f4)) || (!(((rd_T26 l0 x13_1).f5) == ((rd_T26 l1 x13_1).f5)) || (!(((rd_T26 l0 x13_1).f6) == ((rd_T26 l1 x13_1).f6)) || (!((((rd_T26 l0 x13_1).f7).toList) == (((rd_T26 l1 x13_1).f7).toList)))))))))) = false := by simpa using c8
                  clear c8
                  have H' := Aside0.mk H
                  clear H
                  have p101 : 0 ≤ (x13_1 : Int) := of_decide_eq_true (by first | (with_reducible assumption) | assumption)
                  have q101 : x13_1 < (l0.length : Int) := of_decide_eq_true (by first | (with_reducible assumption) | assumption)
                  obtain ⟨ad101, e101, hx101_0, hx101_1, hx101_2, hx101_3, hx101_4, hx101_5, hx101_6, hx101_7⟩ := at_T26 HR0.out x13_1 p101 q101
                  cases e101
                  replace p101 := eq_true p101
                  replace q101 := eq_true q101
                  have p102 : 0 ≤ (x13_1 : Int) := of_decide_eq_true (by first | (with_reducible assumption) | assumption)
                  have q102 : x13_1 < (l1.length : Int) := of_decide_eq_true (by first | (with_reducible assumption) | assumption)
                  obtain ⟨ad102, e102, hx102_0, hx102_1, hx102_2, hx102_3, hx102_4, hx102_5, hx102_6, hx102_7⟩ := at_T26 HR1.out x13_1 p102 q102
                  cases e102
                  replace p102 := eq_true p102
                  replace q102 := eq_true q102
                  go_wp2
                  repeat (go_quiet (fail); try go_wp2)
                  go_roundg k1
                  case measure => have := HK1.out; omega
                  case rel => exact ⟨(wrap64 (x13_1 + 1)), (by first | rfl | (simp; done) | (simp [*]; done)), H', ⟨by have := HK1.out; omega⟩, by repeat (first | exact Drawn0.refl _ | apply Drawn0.step)⟩
              · rw [if_neg c7] at H
                exact absurd H (by simp)
            · rw [if_neg c6] at H
              exact absurd H (by simp)
          · rw [if_neg c5] at H
            exact absurd H (by simp)
        · rw [if_neg c4] at H
          have c4b0 : decide (x13_1 < (l0.length : Int)) = false := decide_eq_false c4
          clear c4
          obtain rfl := Option.some.inj H
          go_wp2
          repeat (go_quiet (fail); try go_wp2)
          go_ret
          exact ⟨by first | rfl | (simp; done) | (simp [*]; done), by repeat (first | exact Drawn0.refl _ | apply Drawn0.step)⟩
  · rw [if_neg c3] at H
    have c3b0 : ((l0.length : Int) == (l1.length : Int)) = false := beq_eq_false_iff_ne.mpr c3
    have c3b1 : ((l0.length : Int) != (l1.length : Int)) = true := bne_iff_ne.mpr c3
    have c3b2 : (l0.length == l1.length) = false := by first | simpa using c3 | (simp at c3 ⊢; omega)
    obtain rfl := Option.some.inj H
    go_enter Try.func42, Try.ntmps42
    go_wp2
    repeat (go_quiet (fail); try go_wp2)
    go_ret
    exact ⟨by first | rfl | (simp; done) | (simp [*]; done), by repeat (first | exact Drawn0.refl _ | apply Drawn0.step)⟩

end Go.Proofs.Ytklbnfpjjcidiaa.X
