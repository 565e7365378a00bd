import Derived.Test.YtekfgmpldgoglaaXK
import Derived.Test.YtekfgmpldgoglaaXGslices
import Derived.Deep.RegionHeld3
import Derived.Lib.IndexAny
import Derived.WalkSpells
namespace Go.Proofs.Ytekfgmpldgoglaa.X
open Go.RowKit Go.Proofs.YtekfgmpldgoglaaW.PrintWords Go.Proofs.YtekfgmpldgoglaaW.PrintLast Go.Proofs.YtekfgmpldgoglaaW.PrintMore
attribute [local go_sem] max2_int min2_int max_two min_two
set_option linter.unusedVariables false
set_option linter.unusedSimpArgs false

def sameF (l0 l1 : List (List Int)) : Bool := decide (l0.map strOfNums = l1.map strOfNums)
def reelkeeperref03_Same.f (l0 l1 : List (List Int)) : Option Bool := some (sameF l0 l1)
theorem sameF_self (l : List (List Int)) : sameF l l = true := decide_eq_true rfl
theorem sameF_len {l0 l1 : List (List Int)} (h : l0.length ≠ l1.length) : sameF l0 l1 = false := by
  unfold sameF
  refine decide_eq_false fun e => h ?_
  simpa using congrArg List.length e
theorem sameF_yes {l0 l1 : List (List Int)} (hl : l0.length = l1.length) (h : ∀ j, j < l0.length → strOfNums (rdR l0 j) = strOfNums (rdR l1 j)) : sameF l0 l1 = true := by
  unfold sameF
  refine decide_eq_true (List.ext_getElem (by simpa using hl) fun i h1 h2 => ?_)
  have := h i (by simpa using h1)
  unfold rdR at this
  rw [List.length_map] at h1 h2
  simpa [List.getD_eq_getElem?_getD, List.getElem?_eq_getElem h1, List.getElem?_eq_getElem h2] using this
theorem sameF_no {l0 l1 : List (List Int)} (hl : l0.length = l1.length) {j : Nat} (hj : j < l0.length) (h : strOfNums (rdR l0 j) ≠ strOfNums (rdR l1 j)) : sameF l0 l1 = false := by
  unfold sameF
  refine decide_eq_false fun e => h ?_
  have := congrArg (fun l => l[j]?) e
  unfold rdR
  have hj2 : j < l1.length := by omega
  simpa [List.getD_eq_getElem?_getD, List.getElem?_eq_getElem hj, List.getElem?_eq_getElem hj2] using this
theorem toList_ne {a b : ByteArray} (h : a ≠ b) : a.toList ≠ b.toList := by
  intro e
  rw [Lib.toList_data, Lib.toList_data] at e
  exact h (ByteArray.ext (Array.ext' e))
set_option maxHeartbeats 1600000 in
set_option maxRecDepth 100000 in
theorem reelkeeperref03_Same.calls (A0 : Option Addr) (c0 : Nat) (l0 : List (List Int)) (A1 : Option Addr) (c1 : Nat) (l1 : List (List Int)) (r : Bool) (w : World) (hr0 : Kd.C (Kd.slice 5 (Kd.int .u8)) w A0 l0.length l0) (hc0 : l0.length ≤ c0) (hr1 : Kd.C (Kd.slice 5 (Kd.int .u8)) w A1 l1.length l1) (hc1 : l1.length ≤ c1) (h : reelkeeperref03_Same.f l0 l1 = some r) :
    Calls Try.prog 17 #[.slice A0 l0.length c0, .slice A1 l1.length c1] w fun e w' => e = .returned (.bool r) ∧ Drawn0 w w' := by
  obtain rfl : sameF l0 l1 = r := Option.some.inj h
  clear h
  have HR0 := Aside0.mk hr0
  have HR1 := Aside0.mk hr1
  have hm0 : l0.length ≤ 9223372036854775807 := by have := hr0.2.1; simpa [maxLen] using this
  clear hr0 hr1
  by_cases hl : l0.length = l1.length
  case neg =>
    rw [sameF_len hl]
    have b1 : ((l0.length : Int) == (l1.length : Int)) = false := beq_false_of_ne (by omega)
    have b2 : ((l0.length : Int) != (l1.length : Int)) = true := by simp only [bne, b1]; rfl
    clear hl
    go_enter Try.func17, Try.ntmps17
    go_wp2
    go_ret
    exact ⟨rfl, Drawn0.refl _⟩
  case pos =>
    have HL := Aside0.mk hl
    have b1 : ((l0.length : Int) == (l1.length : Int)) = true := beq_iff_eq.2 (by omega)
    have b2 : ((l0.length : Int) != (l1.length : Int)) = false := by simp only [bne, b1]; rfl
    clear hl
    go_enter Try.func17, Try.ntmps17
    go_wp2
    clear b1 b2
    go_loopw [5] (fun v5 wr => ∃ i : Nat, i ≤ l0.length ∧ v5 = .int .i64 i ∧ Aside0 (∀ j, j < i → strOfNums (rdR l0 j) = strOfNums (rdR l1 j)) ∧ Aside0 (Drawn0 w wr)) (fun v5 _ => l0.length - (intOf v5).toNat)
    case atStart => exact ⟨0, Nat.zero_le _, rfl, ⟨fun j hj => absurd hj (Nat.not_lt_zero _)⟩, ⟨Drawn0.refl _⟩⟩
    case round =>
      obtain ⟨i, hi, rfl, HE, HD⟩ := hrel
      by_cases hlt : i < l0.length
      · obtain ⟨ad1, B1, d1, e1, hx1, hl1, hi1⟩ := at_row HR0.out i (by omega)
        obtain ⟨ad2, B2, d2, e2, hx2, hl2, hi2⟩ := at_row HR1.out i (by have := HL.out; omega)
        have hlt1 : (i : Int) < (l1.length : Int) := by have := HL.out; omega
        have hlt0 : (i : Int) < (l0.length : Int) := by omega
        have hi0 : (0 : Int) ≤ (i : Int) := by omega
        cases e1
        cases e2
        obtain ⟨⟨nd, hD⟩⟩ := HD.out
        subst hD
        have hk1 := fun n => Kd.C_string (P := Try.prog) (A := B1) (c := d1) Try.underlying41 Try.underlying5 Try.underlying9 (Kd.C_drewN hi1 n)
        have hk2 := fun n => Kd.C_string (P := Try.prog) (A := B2) (c := d2) Try.underlying41 Try.underlying5 Try.underlying9 (Kd.C_drewN hi2 n)
        have HI1 := Aside0.mk hi1
        have HI2 := Aside0.mk hi2
        have HK1 := Aside0.mk hk1
        have HK2 := Aside0.mk hk2
        clear hi1 hi2 hk1 hk2
        by_cases hs : strOfNums (rdR l0 i) = strOfNums (rdR l1 i)
        · have HS := Aside0.mk hs
          have q1 : ((strOfNums (rdR l0 i)).toList == (strOfNums (rdR l1 i)).toList) = true := by rw [hs]; exact beq_self_eq_true _
          have q2 : ((strOfNums (rdR l0 i)).toList != (strOfNums (rdR l1 i)).toList) = false := by simp only [bne, q1]; rfl
          clear hs
          go_wp2_with (fail)
          go_region_held3 (fun w' => w'.cell? (ad1.add i) = some (.slice B1 (rdR l0 i).length d1) ∧ w'.cell? (ad2.add i) = some (.slice B2 (rdR l1 i).length d2) ∧ (convert 41 9 (.slice B1 (rdR l0 i).length d1)).run Try.prog w' = .ok (.string (strOfNums (rdR l0 i))) w' ∧ (convert 41 9 (.slice B2 (rdR l1 i).length d2)).run Try.prog w' = .ok (.string (strOfNums (rdR l1 i))) w') (exact ⟨hx1, hx2, HK1.out (nd + 1), HK2.out (nd + 1)⟩) (fail)
          go_wp2_with (fail)
          go_roundw
          case rel => exact ⟨i + 1, by omega, by go_num, ⟨fun j hj => by
            rcases Nat.lt_or_ge j i with c | c
            · exact HE.out j c
            · obtain rfl : j = i := by omega
              exact HS.out⟩, ⟨⟨⟨_, rfl⟩⟩⟩⟩
          case measure => simp [intOf]; omega
        · have HS := Aside0.mk hs
          have q1 : ((strOfNums (rdR l0 i)).toList == (strOfNums (rdR l1 i)).toList) = false := beq_false_of_ne (toList_ne hs)
          have q2 : ((strOfNums (rdR l0 i)).toList != (strOfNums (rdR l1 i)).toList) = true := by simp only [bne, q1]; rfl
          clear hs
          go_wp2_with (fail)
          go_region_held3 (fun w' => w'.cell? (ad1.add i) = some (.slice B1 (rdR l0 i).length d1) ∧ w'.cell? (ad2.add i) = some (.slice B2 (rdR l1 i).length d2) ∧ (convert 41 9 (.slice B1 (rdR l0 i).length d1)).run Try.prog w' = .ok (.string (strOfNums (rdR l0 i))) w' ∧ (convert 41 9 (.slice B2 (rdR l1 i).length d2)).run Try.prog w' = .ok (.string (strOfNums (rdR l1 i))) w') (exact ⟨hx1, hx2, HK1.out (nd + 1), HK2.out (nd + 1)⟩) (fail)
          go_wp2_with (fail)
          go_ret
          rw [sameF_no HL.out hlt HS.out]
          exact ⟨rfl, ⟨nd + 1, rfl⟩⟩
      · have hge : ¬ (i : Int) < (l0.length : Int) := by omega
        obtain ⟨⟨nd, hD⟩⟩ := HD.out
        subst hD
        go_wp2_with (fail)
        go_ret
        rw [sameF_yes HL.out (fun j hj => HE.out j (by omega))]
        exact ⟨rfl, ⟨_, rfl⟩⟩

end Go.Proofs.Ytekfgmpldgoglaa.X
namespace Go.Proofs.Ytekfgmpldgoglaa.X
open Go.RowKit Go.Proofs.YtekfgmpldgoglaaW.PrintWords Go.Proofs.YtekfgmpldgoglaaW.PrintLast Go.Proofs.YtekfgmpldgoglaaW.PrintMore
attribute [local go_sem] max2_int min2_int max_two min_two
set_option linter.unusedVariables false
set_option linter.unusedSimpArgs false

/-! ### reelkeeperref03_Zero: function 110 -/
def reelkeeperref03_Zero.l0 : Nat → List Int → Int → Option (Bool)
  | 0, _, _ => none
  | k + 1, x0, x3 => if x3 < (x0.length : Int) then (if 0 ≤ x3 then (if (rd x0 x3) = 0 then (reelkeeperref03_Zero.l0 k x0 (wrap64 (x3 + 1))) else (some false)) else (none)) else (some true)
def reelkeeperref03_Zero.f (k : Nat) (l0 : List Int) : Option (Bool) := reelkeeperref03_Zero.l0 k l0 0
theorem reelkeeperref03_Zero.mono_l : ∀ k, (∀ y0 y1, LeO (reelkeeperref03_Zero.l0 k y0 y1) (reelkeeperref03_Zero.l0 (k + 1) y0 y1))
  | 0 => fun _ _ r h => by simp [reelkeeperref03_Zero.l0] at h
  | k + 1 => by
    have ih0 := reelkeeperref03_Zero.mono_l k
    · intro y0 y1
      unfold reelkeeperref03_Zero.l0
      repeat' first
      | (with_reducible exact ih0 _ _)
      | (with_reducible exact LeO.refl _)
      | (with_reducible exact LeO.none _)
      | (with_reducible refine LeO.ite ?_ ?_)
      | (with_reducible refine LeO.bind ?_ (fun _ => ?_))
      | exact ih0 _ _
      | exact LeO.none _
      | refine LeO.ite ?_ ?_
      | refine LeO.bind ?_ (fun _ => ?_)
theorem reelkeeperref03_Zero.mono : ∀ a0 k, LeO (reelkeeperref03_Zero.f k a0) (reelkeeperref03_Zero.f (k + 1) a0) := by
  intro a0 k
  have ih0 := reelkeeperref03_Zero.mono_l k
  unfold reelkeeperref03_Zero.f
  repeat' first
      | (with_reducible exact ih0 _ _)
      | (with_reducible exact LeO.refl _)
      | (with_reducible exact LeO.none _)
      | (with_reducible refine LeO.ite ?_ ?_)
      | (with_reducible refine LeO.bind ?_ (fun _ => ?_))
      | exact ih0 _ _
      | exact LeO.none _
      | refine LeO.ite ?_ ?_
      | refine LeO.bind ?_ (fun _ => ?_)
set_option maxHeartbeats 8000000 in
set_option maxRecDepth 100000 in
theorem reelkeeperref03_Zero.calls (k : Nat) (A0 : Option Addr) (c0 : Nat) (l0 : List Int) (r : Bool) (w : World) (hr0 : Kd.C (Kd.int .u8) w A0 l0.length l0) (hc0 : l0.length ≤ c0) (h : reelkeeperref03_Zero.f k l0 = some r) :
    Calls Try.prog 110 #[.slice A0 l0.length c0] w fun e w' => e = .returned (.bool r) ∧ Drawn0 w w' := by
  have HR0 := Aside0.mk hr0
  have HC0 := Aside0.mk hc0
  clear hr0 hc0
  have H : (reelkeeperref03_Zero.l0 k l0 0) = some r := h
  clear h
  have H' := Aside0.mk H
  clear H
  go_enter Try.func110, Try.ntmps110
  go_wp2
  go_loopg [3] k (fun kq v3 w' => ∃ (x3_1 : Int), v3 = .int .i64 x3_1 ∧ Aside0 (reelkeeperref03_Zero.l0 kq l0 x3_1 = some r) ∧ Aside0 (kq ≤ k) ∧ Drawn0 w w')
  case atStart => exact ⟨(0), (by first | rfl | (simp; done) | (simp [*]; done)), H', ⟨Nat.le_refl _⟩, by repeat (first | exact Drawn0.refl _ | apply Drawn0.step)⟩
  case round =>
    clear H'
    try clear c1
    obtain ⟨x3_1, rfl, HA, HK1, ⟨m1, rfl⟩⟩ := hrel
    cases gk with
    | zero => exact absurd HA.out (by simp [reelkeeperref03_Zero.l0])
    | succ k1 =>
      have H := HA.out
      clear HA
      simp only [reelkeeperref03_Zero.l0] at H
      by_cases c2 : x3_1 < (l0.length : Int)
      · rw [if_pos c2] at H
        have c2b0 : decide (x3_1 < (l0.length : Int)) = true := decide_eq_true c2
        clear c2
        by_cases c3 : 0 ≤ x3_1
        · rw [if_pos c3] at H
          have c3b0 : decide (0 ≤ x3_1) = true := decide_eq_true c3
          clear c3
          by_cases c4 : (rd l0 x3_1) = 0
          · rw [if_pos c4] at H
            have c4b0 : ((rd l0 x3_1) == 0) = true := beq_iff_eq.mpr c4
            have c4b1 : ((rd l0 x3_1) != 0) = false := bne_eq_false_iff_eq.mpr c4
            clear c4
            have H' := Aside0.mk H
            clear H
            have p101 : 0 ≤ (x3_1 : Int) := of_decide_eq_true (by first | (with_reducible assumption) | assumption)
            have q101 : x3_1 < (l0.length : Int) := of_decide_eq_true (by first | (with_reducible assumption) | assumption)
            obtain ⟨ad101, e101, hx101_0⟩ := Kd.at_int HR0.out x3_1 p101 q101
            cases e101
            replace p101 := eq_true p101
            replace q101 := eq_true q101
            go_wp2
            go_roundg k1
            case measure => have := HK1.out; omega
            case rel => exact ⟨(wrap64 (x3_1 + 1)), (by first | rfl | (simp; done) | (simp [*]; done)), H', ⟨by have := HK1.out; omega⟩, by repeat (first | exact Drawn0.refl _ | apply Drawn0.step)⟩
          · rw [if_neg c4] at H
            have c4b0 : ((rd l0 x3_1) == 0) = false := beq_eq_false_iff_ne.mpr c4
            have c4b1 : ((rd l0 x3_1) != 0) = true := bne_iff_ne.mpr c4
            obtain rfl := Option.some.inj H
            have p101 : 0 ≤ (x3_1 : Int) := of_decide_eq_true (by first | (with_reducible assumption) | assumption)
            have q101 : x3_1 < (l0.length : Int) := of_decide_eq_true (by first | (with_reducible assumption) | assumption)
            obtain ⟨ad101, e101, hx101_0⟩ := Kd.at_int HR0.out x3_1 p101 q101
            cases e101
            replace p101 := eq_true p101
            replace q101 := eq_true q101
            go_wp2
            go_ret
            exact ⟨by first | rfl | (simp; done) | (simp [*]; done), by repeat (first | exact Drawn0.refl _ | apply Drawn0.step)⟩
        · rw [if_neg c3] at H
          exact absurd H (by simp)
      · rw [if_neg c2] at H
        have c2b0 : decide (x3_1 < (l0.length : Int)) = false := decide_eq_false c2
        clear c2
        obtain rfl := Option.some.inj H
        go_wp2
        go_ret
        exact ⟨by first | rfl | (simp; done) | (simp [*]; done), by repeat (first | exact Drawn0.refl _ | apply Drawn0.step)⟩

end Go.Proofs.Ytekfgmpldgoglaa.X
namespace Go.Proofs.Ytekfgmpldgoglaa.X
open Go.RowKit Go.Proofs.YtekfgmpldgoglaaW.PrintWords Go.Proofs.YtekfgmpldgoglaaW.PrintLast Go.Proofs.YtekfgmpldgoglaaW.PrintMore
attribute [local go_sem] max2_int min2_int max_two min_two
set_option linter.unusedVariables false
set_option linter.unusedSimpArgs false

/-! ### reelkeeperref03_Many: function 63 -/
def reelkeeperref03_Many.f (a0 : Int) : Option (Int) := if a0 < 1 then (some 0) else (if (Int.tmod a0 512) > 0 then (some (wrap64 ((wrap64 (Int.tdiv a0 512)) + 1))) else (some (wrap64 (Int.tdiv a0 512))))
set_option maxHeartbeats 8000000 in
set_option maxRecDepth 100000 in
theorem reelkeeperref03_Many.calls (a0 : Int) (r : Int) (w : World) (h : reelkeeperref03_Many.f a0 = some r) :
    Calls Try.prog 63 #[.int .i64 a0] w fun e w' => e = .returned (.int .i64 r) ∧ Drawn0 w w' := by
  have H : (if a0 < 1 then (some 0) else (if (Int.tmod a0 512) > 0 then (some (wrap64 ((wrap64 (Int.tdiv a0 512)) + 1))) else (some (wrap64 (Int.tdiv a0 512))))) = some r := h
  clear h
  by_cases c2 : a0 < 1
  · rw [if_pos c2] at H
    have c2b0 : decide (a0 < 1) = true := decide_eq_true c2
    clear c2
    obtain rfl := Option.some.inj H
    go_enter Try.func63, Try.ntmps63
    go_wp2
    go_ret
    exact ⟨by first | rfl | (simp; done) | (simp [*]; done), by repeat (first | exact Drawn0.refl _ | apply Drawn0.step)⟩
  · rw [if_neg c2] at H
    have c2b0 : decide (a0 < 1) = false := decide_eq_false c2
    clear c2
    by_cases c3 : (Int.tmod a0 512) > 0
    · rw [if_pos c3] at H
      have c3b0 : decide (0 < (Int.tmod a0 512)) = true := decide_eq_true c3
      clear c3
      obtain rfl := Option.some.inj H
      go_enter Try.func63, Try.ntmps63
      go_wp2
      go_ret
      exact ⟨by first | rfl | (simp; done) | (simp [*]; done), by repeat (first | exact Drawn0.refl _ | apply Drawn0.step)⟩
    · rw [if_neg c3] at H
      have c3b0 : decide (0 < (Int.tmod a0 512)) = false := decide_eq_false c3
      clear c3
      obtain rfl := Option.some.inj H
      go_enter Try.func63, Try.ntmps63
      go_wp2
      go_ret
      exact ⟨by first | rfl | (simp; done) | (simp [*]; done), by repeat (first | exact Drawn0.refl _ | apply Drawn0.step)⟩

end Go.Proofs.Ytekfgmpldgoglaa.X
namespace Go.Proofs.Ytekfgmpldgoglaa.X
open Go.RowKit Go.Proofs.YtekfgmpldgoglaaW.PrintWords Go.Proofs.YtekfgmpldgoglaaW.PrintLast Go.Proofs.YtekfgmpldgoglaaW.PrintMore
attribute [local go_sem] max2_int min2_int max_two min_two
set_option linter.unusedVariables false
set_option linter.unusedSimpArgs false

/-! ### reelkeeperref03_Cut: function 61 -/
mutual
def reelkeeperref03_Cut.l0 : Nat → ByteArray → List (List Int) → Int → Option ((List (List Int)))
  | 0, _, _, _ => none
  | k + 1, x0, x3, x4 => (reelkeeperref03_Many.f (x0.size : Int)).bind fun t101 => (if x4 < t101 then (if 512 ≤ 281474976710656 then (reelkeeperref03_Cut.l1 k x0 x3 x4 (List.replicate 512 0) 0) else (none)) else (some x3))
def reelkeeperref03_Cut.l1 : Nat → ByteArray → List (List Int) → Int → List Int → Int → Option ((List (List Int)))
  | 0, _, _, _, _, _ => none
  | k + 1, x0, x3, x4, x5, x6 => if x6 < 512 then (if (wrap64 ((wrap64 (512 * x4)) + x6)) < (x0.size : Int) then (if 0 ≤ (wrap64 ((wrap64 (512 * x4)) + x6)) then (if 0 ≤ x6 then (if x6 < (x5.length : Int) then (reelkeeperref03_Cut.l1 k x0 x3 x4 (x5.set (x6 : Int).toNat (bt x0 (wrap64 ((wrap64 (512 * x4)) + x6)))) (wrap64 (x6 + 1))) else (none)) else (none)) else (none)) else (if x3.length < 5864062014805 then (reelkeeperref03_Cut.l0 k x0 (x3 ++ [x5]) (wrap64 (x4 + 1))) else (none))) else (if x3.length < 5864062014805 then (reelkeeperref03_Cut.l0 k x0 (x3 ++ [x5]) (wrap64 (x4 + 1))) else (none))
end
def reelkeeperref03_Cut.f (k : Nat) (a0 : ByteArray) : Option ((List (List Int))) := reelkeeperref03_Cut.l0 k a0 ([] : List (List Int)) 0
theorem reelkeeperref03_Cut.mono_l : ∀ k, (∀ y0 y1 y2, LeO (reelkeeperref03_Cut.l0 k y0 y1 y2) (reelkeeperref03_Cut.l0 (k + 1) y0 y1 y2)) ∧ (∀ y0 y1 y2 y3 y4, LeO (reelkeeperref03_Cut.l1 k y0 y1 y2 y3 y4) (reelkeeperref03_Cut.l1 (k + 1) y0 y1 y2 y3 y4))
  | 0 => ⟨fun _ _ _ r h => by simp [reelkeeperref03_Cut.l0] at h, fun _ _ _ _ _ r h => by simp [reelkeeperref03_Cut.l1] at h⟩
  | k + 1 => by
    obtain ⟨ih0, ih1⟩ := reelkeeperref03_Cut.mono_l k
    refine ⟨?_, ?_⟩
    · intro y0 y1 y2
      unfold reelkeeperref03_Cut.l0
      repeat' first
      | (with_reducible exact ih0 _ _ _)
      | (with_reducible exact ih1 _ _ _ _ _)
      | (with_reducible exact LeO.refl _)
      | (with_reducible exact LeO.none _)
      | (with_reducible refine LeO.ite ?_ ?_)
      | (with_reducible refine LeO.bind ?_ (fun _ => ?_))
      | exact ih0 _ _ _
      | exact ih1 _ _ _ _ _
      | exact LeO.none _
      | refine LeO.ite ?_ ?_
      | refine LeO.bind ?_ (fun _ => ?_)
    · intro y0 y1 y2 y3 y4
      unfold reelkeeperref03_Cut.l1
      repeat' first
      | (with_reducible exact ih0 _ _ _)
      | (with_reducible exact ih1 _ _ _ _ _)
      | (with_reducible exact LeO.refl _)
      | (with_reducible exact LeO.none _)
      | (with_reducible refine LeO.ite ?_ ?_)
      | (with_reducible refine LeO.bind ?_ (fun _ => ?_))
      | exact ih0 _ _ _
      | exact ih1 _ _ _ _ _
      | exact LeO.none _
      | refine LeO.ite ?_ ?_
      | refine LeO.bind ?_ (fun _ => ?_)
theorem reelkeeperref03_Cut.mono : ∀ a0 k, LeO (reelkeeperref03_Cut.f k a0) (reelkeeperref03_Cut.f (k + 1) a0) := by
  intro a0 k
  obtain ⟨ih0, ih1⟩ := reelkeeperref03_Cut.mono_l k
  unfold reelkeeperref03_Cut.f
  repeat' first
      | (with_reducible exact ih0 _ _ _)
      | (with_reducible exact ih1 _ _ _ _ _)
      | (with_reducible exact LeO.refl _)
      | (with_reducible exact LeO.none _)
      | (with_reducible refine LeO.ite ?_ ?_)
      | (with_reducible refine LeO.bind ?_ (fun _ => ?_))
      | exact ih0 _ _ _
      | exact ih1 _ _ _ _ _
      | exact LeO.none _
      | refine LeO.ite ?_ ?_
      | refine LeO.bind ?_ (fun _ => ?_)
set_option maxHeartbeats 8000000 in
set_option maxRecDepth 100000 in
theorem reelkeeperref03_Cut.calls (k : Nat) (a0 : ByteArray) (r : List (List Int)) (w : World) (h : reelkeeperref03_Cut.f k a0 = some r) :
    Calls Try.prog 61 #[.string a0] w fun e w' => ∃ v0_ : Value, e = .returned (v0_) ∧ Kd.R (Kd.slice 5 (Kd.int .u8)) 41 w' w.heap.size (fun _ => True) v0_ r ∧ Below w.heap.size w w' := by
  have HB := Aside0.mk (Below.refl w.heap.size w)
  have H : (reelkeeperref03_Cut.l0 k a0 ([] : List (List Int)) 0) = some r := h
  clear h
  have H' := Aside0.mk H
  clear H
  go_enter Try.func61, Try.ntmps61
  go_wp2
  go_loopg [3, 4] k (fun kq v3 v4 w' => ∃ (x3_1 : List (List Int)) (x4_1 : Int), v4 = .int .i64 x4_1 ∧ Aside0 (reelkeeperref03_Cut.l0 kq a0 x3_1 x4_1 = some r) ∧ Aside0 (kq ≤ k) ∧ Aside0 (Kd.R (Kd.slice 5 (Kd.int .u8)) 41 w' w.heap.size (fun _ => True) v3 x3_1) ∧ Aside0 (Below w.heap.size w w'))
  case atStart => exact ⟨(([] : List (List Int))), (0), (by first | rfl | (simp; done) | (simp [*]; done)), H', ⟨Nat.le_refl _⟩, ⟨by first | exact Kd.R_nil _ _ _ _ _ | exact Kd.N_nil _ _ _ _ _ | exact Kd.V_nil _ _ _ _ _ | exact Kd.Q_nil _ _ _ _ _ | exact Kd.S_nil _ _ _ _ _⟩, ⟨by repeat (first | (with_reducible first | exact HB.out | apply below_alloc | apply pw_below_drewN | apply below_drew1) | exact HB.out)⟩⟩
  case round =>
    clear H'
    obtain ⟨x3_1, x4_1, rfl, HA, HK1, HO_3, HB⟩ := hrel
    cases gk with
    | zero => exact absurd HA.out (by simp [reelkeeperref03_Cut.l0])
    | succ k1 =>
      have H := HA.out
      clear HA
      simp only [reelkeeperref03_Cut.l0] at H
      replace H := Option.bind_eq_some_iff.mp H
      obtain ⟨t101, A20, H⟩ := H
      replace H : (if x4_1 < t101 then (if 512 ≤ 281474976710656 then (reelkeeperref03_Cut.l1 k1 a0 x3_1 x4_1 (List.replicate 512 0) 0) else (none)) else (some x3_1)) = some r := H
      have A2 := Aside0.mk A20
      clear A20
      by_cases c3 : x4_1 < t101
      · rw [if_pos c3] at H
        have c3b0 : decide (x4_1 < t101) = true := decide_eq_true c3
        clear c3
        by_cases c4 : 512 ≤ 281474976710656
        · rw [if_pos c4] at H
          have c4b0 := eq_true c4
          have c4b1 : decide (512 ≤ 281474976710656) = true := decide_eq_true c4
          clear c4
          obtain ⟨y102, hy102⟩ : ∃ y_ : List Int, y_ = (List.replicate 512 0) := ⟨_, rfl⟩
          replace H : (reelkeeperref03_Cut.l1 k1 a0 x3_1 x4_1 y102 0) = some r := by first | (rw [hy102]; with_reducible exact H) | (have H2_ := (Option.bind_some _ _).symm.trans H; rw [hy102]; with_reducible exact H2_) | (have H2_ := (Option.bind_some _ _).symm.trans H; with_reducible exact H2_) | with_reducible exact H | (rw [hy102]; exact H) | exact H
          have Ny102 := Aside0.mk hy102
          clear hy102
          have H' := Aside0.mk H
          clear H
          go_wp2_with (first | ((with_reducible refine gate_callee (f := 63) rfl ?_); refine goesL_ (some 10) rfl rfl Try.func63 (by kernel_rfl) rfl #[.int .i64 (a0.size : Int)] rfl (by (try simp only [List.map_toArray, List.map_cons, List.map_nil]); first | done | rfl | (simp only [List.length_drop, List.length_take]; rfl)) ?_; (with_reducible refine (reelkeeperref03_Many.calls (a0.size : Int) t101 _ A2.out).mono ?_); rintro e w' ⟨rfl, ⟨nd, rfl⟩⟩; refine ⟨_, rfl, ?_⟩) | ((with_reducible refine gate_dst (N := 14) rfl ?_); (try (refine gate_guard (by rfl) ?_; dsimp only)); refine Kd.R_make (Kd.int .u8) _ 5 rfl (N := 14) rfl 41 _ _ rfl 512 rfl rfl Try.underlying41 (.int .u8 0) 1 info5 rfl (by decide) (by omega) 0 (ok := fun _ => True) (okp := fun _ => True) rfl (fun _ hk => hk) trivial (by omega) (by omega) (Below.refl _ _) (Nat.le_refl _) ?_; intro v103 w5 ho6 hb hg_ hnew_; clear hg_ hnew_; (first | rw [← Ny102.out] at ho6 | (simp only [Int.reduceToNat] at ho6; rw [← Ny102.out] at ho6)); have n0_ := Aside0.mk (Kd.R_elder' (by (with_reducible repeat (first | apply Kd.R_alloc | apply Kd.R_drewN | apply Kd.R_drew)); exact HO_3.out) (Kd.R_base ho6) hb); have n1_ := Aside0.mk (Kd.R_lower ho6 (below_size (by repeat (first | (with_reducible first | exact HB.out | apply below_alloc | apply pw_below_drewN | apply below_drew1) | exact HB.out)))); have n2_ := Aside0.mk (below_step (by repeat (first | (with_reducible first | exact HB.out | apply below_alloc | apply pw_below_drewN | apply below_drew1) | exact HB.out)) hb); clear HO_3; clear HB; have HO_3 := n0_; have HO104 := n1_; have HB := n2_; clear n0_ n1_ n2_; clear hb ho6))
          go_loopg [6] k1 (fun kq v6 w' => ∃ (x5_2 : List Int) (x6_2 : Int), v6 = .int .i64 x6_2 ∧ Aside0 (reelkeeperref03_Cut.l1 kq a0 x3_1 x4_1 x5_2 x6_2 = some r) ∧ Aside0 (kq ≤ k1) ∧ Aside0 (Kd.R (Kd.slice 5 (Kd.int .u8)) 41 w' w.heap.size (fun k_ => some k_ ≠ (v103 : Value).ownBlock) u3 x3_1) ∧ Aside0 (Kd.R (Kd.int .u8) 5 w' w.heap.size (fun _ => True) v103 x5_2) ∧ Aside0 (Below w.heap.size w w'))
          case atStart => exact ⟨(y102), (0), (by first | rfl | (simp; done) | (simp [*]; done)), H', ⟨Nat.le_refl _⟩, ⟨by (with_reducible repeat (first | apply Kd.R_alloc | apply Kd.R_drewN | apply Kd.R_drew)); exact Kd.R_mono HO_3.out (fun _ hk => hk.2)⟩, ⟨by (with_reducible repeat (first | apply Kd.R_alloc | apply Kd.R_drewN | apply Kd.R_drew)); exact HO104.out⟩, ⟨by repeat (first | (with_reducible first | exact HB.out | apply below_alloc | apply pw_below_drewN | apply below_drew1) | exact HB.out)⟩⟩
          case round =>
            clear H'
            try clear p2
            try clear c3
            try clear c3b0
            try clear c4
            try clear c4b0
            try clear c4b1
            try clear c6
            obtain ⟨x5_2, x6_2, rfl, HA, HK2, HO_3, HO_5, HB⟩ := hrel
            cases gk with
            | zero => exact absurd HA.out (by simp [reelkeeperref03_Cut.l1])
            | succ k2 =>
              have H := HA.out
              clear HA
              simp only [reelkeeperref03_Cut.l1] at H
              by_cases c7 : x6_2 < 512
              · rw [if_pos c7] at H
                have c7b0 : decide (x6_2 < 512) = true := decide_eq_true c7
                clear c7
                by_cases c8 : (wrap64 ((wrap64 (512 * x4_1)) + x6_2)) < (a0.size : Int)
                · rw [if_pos c8] at H
                  have c8b0 : decide ((wrap64 ((wrap64 (512 * x4_1)) + x6_2)) < (a0.size : Int)) = true := decide_eq_true c8
                  clear c8
                  obtain ⟨ji9, hji9⟩ : ∃ j_ : Int, (wrap64 ((wrap64 (512 * x4_1)) + x6_2)) = j_ := ⟨_, rfl⟩
                  replace H : (if 0 ≤ (ji9) then (if 0 ≤ x6_2 then (if x6_2 < (x5_2.length : Int) then (reelkeeperref03_Cut.l1 k2 a0 x3_1 x4_1 (x5_2.set (x6_2 : Int).toNat (bt a0 (ji9))) (wrap64 (x6_2 + 1))) else (none)) else (none)) else (none)) = some r := by first | (rw [hji9] at H; exact H) | (simp only [hji9] at H ⊢; exact H)
                  (try rw [hji9] at c8b0)
                  have hji9w : (IntKind.i64.wrap ((wrap64 (512 * x4_1)) + x6_2)) = ji9 := (i64_w _).trans hji9
                  by_cases c10 : 0 ≤ (ji9)
                  · rw [if_pos c10] at H
                    have c10b0 : decide (0 ≤ (ji9)) = true := decide_eq_true c10
                    clear c10
                    by_cases c12 : 0 ≤ x6_2
                    · rw [if_pos c12] at H
                      have c12b0 : decide (0 ≤ x6_2) = true := decide_eq_true c12
                      clear c12
                      by_cases c13 : x6_2 < (x5_2.length : Int)
                      · rw [if_pos c13] at H
                        have c13b0 : decide (x6_2 < (x5_2.length : Int)) = true := decide_eq_true c13
                        clear c13
                        obtain ⟨y105, hy105⟩ : ∃ y_ : List Int, y_ = (x5_2.set (x6_2 : Int).toNat (bt a0 (ji9))) := ⟨_, rfl⟩
                        replace H : (reelkeeperref03_Cut.l1 k2 a0 x3_1 x4_1 y105 (wrap64 (x6_2 + 1))) = some r := by first | (rw [hy105]; with_reducible exact H) | (have H2_ := (Option.bind_some _ _).symm.trans H; rw [hy105]; with_reducible exact H2_) | (have H2_ := (Option.bind_some _ _).symm.trans H; with_reducible exact H2_) | with_reducible exact H | (rw [hy105]; exact H) | exact H
                        have Ny105 := Aside0.mk hy105
                        clear hy105
                        have H' := Aside0.mk H
                        clear H
                        have p11 : 0 ≤ ((ji9) : Int) := of_decide_eq_true (by first | (with_reducible assumption) | assumption)
                        have q11 : (ji9) < (a0.size : Int) := of_decide_eq_true (by first | (with_reducible assumption) | assumption)
                        have hx11 := bt_at a0 (ji9)
                        replace p11 := eq_true p11
                        replace q11 := eq_true q11
                        have p14 : 0 ≤ (x6_2 : Int) := of_decide_eq_true (by first | (with_reducible assumption) | assumption)
                        have q14 : (x6_2 : Int) < ((x5_2.length : Int) : Int) := of_decide_eq_true (by first | (with_reducible assumption) | assumption)
                        obtain ⟨go14, co14, eo14, gb14, gl14, cl14, HG14⟩ := Kd.R_form HO_5.out (by omega)
                        (first | cases eo14 | (injection eo14 with ea_ en_ ec_; (first | subst ea_ | (injection ea_ with ea_; subst ea_)); subst ec_; clear en_))
                        have GB14 := Aside0.mk gb14
                        have GG14 := Aside0.mk HG14
                        clear gb14 gl14 HG14
                        obtain ⟨hx14_0, hf14_0⟩ := Kd.R_celln 0 HO_5.out (x6_2 : Int) p14 q14
                        replace p14 := eq_true p14
                        replace q14 := eq_true q14
                        have HP15 := Kd.R_putg HO_5.out (x6_2 : Int) (bt a0 (ji9))
                        go_wp2_with (first | ((with_reducible refine gate_store (t := 5) (p := 36) rfl ?_); refine store_event (t := 5) (p := 36) (v := ?vo_w16) (w1 := (wr.setCell ⟨go14, (x6_2 : Int).toNat, none⟩ (.int .u8 (bt a0 (ji9))))) ?hg ?ho ?hn ?hr ?_; (case ho => rfl); (case hg => rfl); (case hn => rfl); (case hr => first | (go_simp; done) | (go_simp; rfl)); intro w16 hw; have hg : wr.grownBy w16 (some go14) := (by rw [hw]; exact HP15.2); have hp_ : Kd.R (Kd.int .u8) 5 w16 w.heap.size (fun _ => True) (.slice (some ⟨go14, 0, none⟩) x5_2.length co14) y105 := (by rw [hw, Ny105.out]; exact HP15.1); clear HP15; have n0_ := Aside0.mk (Kd.R_after (v := (.slice (some ⟨go14, 0, none⟩) x5_2.length co14)) (v1 := (.slice (some ⟨go14, 0, none⟩) x5_2.length co14)) (ok := (fun _ => True)) (by (with_reducible repeat (first | apply Kd.R_alloc | apply Kd.R_drewN | apply Kd.R_drew)); exact Kd.R_mono HO_3.out (fun _ hk => ⟨trivial, hk⟩)) hg (.inl rfl)); have n1_ := Aside0.mk (hp_); have n2_ := Aside0.mk ((by rw [hw]; exact below_set (HB.out) GB14.out : Below w.heap.size w w16)); clear HO_3; clear HO_5; clear HB; have HO_3 := n0_; have HO_5 := n1_; have HB := n2_; clear n0_ n1_ n2_; clear hg hw hp_))
                        go_roundg k2
                        case measure => have := HK1.out; have := HK2.out; omega
                        case rel => exact ⟨(y105), (wrap64 (x6_2 + 1)), (by first | rfl | (simp; done) | (simp [*]; done)), H', ⟨by have := HK1.out; have := HK2.out; omega⟩, ⟨by (with_reducible repeat (first | apply Kd.R_alloc | apply Kd.R_drewN | apply Kd.R_drew)); exact Kd.R_mono HO_3.out (fun _ hk => hk.2)⟩, ⟨by (with_reducible repeat (first | apply Kd.R_alloc | apply Kd.R_drewN | apply Kd.R_drew)); exact HO_5.out⟩, ⟨by repeat (first | (with_reducible first | exact HB.out | apply below_alloc | apply pw_below_drewN | apply below_drew1) | exact HB.out)⟩⟩
                      · rw [if_neg c13] at H
                        exact absurd H (by simp)
                    · rw [if_neg c12] at H
                      exact absurd H (by simp)
                  · rw [if_neg c10] at H
                    exact absurd H (by simp)
                · rw [if_neg c8] at H
                  have c8b0 : decide ((wrap64 ((wrap64 (512 * x4_1)) + x6_2)) < (a0.size : Int)) = false := decide_eq_false c8
                  clear c8
                  by_cases c17 : x3_1.length < 5864062014805
                  · rw [if_pos c17] at H
                    have LMc17 := Aside0.mk c17
                    clear c17
                    obtain ⟨y106, hy106⟩ : ∃ y_ : List (List Int), y_ = (x3_1 ++ [x5_2]) := ⟨_, rfl⟩
                    replace H : (reelkeeperref03_Cut.l0 k2 a0 y106 (wrap64 (x4_1 + 1))) = some r := by first | (rw [hy106]; with_reducible exact H) | (have H2_ := (Option.bind_some _ _).symm.trans H; rw [hy106]; with_reducible exact H2_) | (have H2_ := (Option.bind_some _ _).symm.trans H; with_reducible exact H2_) | with_reducible exact H | (rw [hy106]; exact H) | exact H
                    have Ny106 := Aside0.mk hy106
                    clear hy106
                    have H' := Aside0.mk H
                    clear H
                    obtain ⟨Ao19, co19, eo19⟩ := Kd.R_slice HO_5.out
                    subst eo19
                    go_wp2_with (first | ((with_reducible refine gate_builtin (b := .append) (xs := #[.tmp 37, .tmp 39]) rfl ?_); (try (refine gate_guard (by rfl) ?_; dsimp only)); at_builtin; refine Kd.R_append (Kd.slice 5 (Kd.int .u8)) (w0 := w) w.heap.size rfl (.tmp 37) (.tmp 39) 24 41 (.slice none 0 0) 24 rfl Try.underlying24 info41 rfl (by decide) (by omega) u3 x3_1 x5_2 [.slice Ao19 x5_2.length co19] (fun _ => True) (fun k_ => ((fun _ => True)) k_ ∧ some k_ ≠ (u3 : Value).ownBlock) rfl rfl ?aP (fun _ hk => hk) ?aF ?aO ?aB ?aS ?aL ?_; (case aP => exact Kd.M_row (Kd.R_mono (Kd.R_apart' (HO_5.out) (Kd.R_typed HO_3.out) (by decide)) (fun k_ hk => ⟨trivial, hk.2⟩))); (case aB => exact (by repeat (first | (with_reducible first | exact HB.out | apply below_alloc | apply pw_below_drewN | apply below_drew1) | exact HB.out))); (case aF => exact (fun _ _ => trivial)); (case aO => exact (by (with_reducible repeat (first | apply Kd.R_alloc | apply Kd.R_drewN | apply Kd.R_drew)); exact Kd.R_mono HO_3.out (fun _ hk => trivial))); (case aS => exact (below_size (by repeat (first | (with_reducible first | exact HB.out | apply below_alloc | apply pw_below_drewN | apply below_drew1) | exact HB.out)))); (case aL => have := LMc17.out; omega); intro v107 w18 ho hb hg hat; rw [← Ny106.out] at ho; have n0_ := Aside0.mk (hb); have n1_ := Aside0.mk (ho); clear HB; clear HO_3; clear HO_5; have HB := n0_; have HO108 := n1_; clear n0_ n1_; clear ho hb hg hat))
                    go_roundg k2
                    case measure => have := HK1.out; have := HK2.out; omega
                    case rel => exact ⟨(y106), (wrap64 (x4_1 + 1)), (by first | rfl | (simp; done) | (simp [*]; done)), H', ⟨by have := HK1.out; have := HK2.out; omega⟩, ⟨by (with_reducible repeat (first | apply Kd.R_alloc | apply Kd.R_drewN | apply Kd.R_drew)); exact HO108.out⟩, ⟨by repeat (first | (with_reducible first | exact HB.out | apply below_alloc | apply pw_below_drewN | apply below_drew1) | exact HB.out)⟩⟩
                  · rw [if_neg c17] at H
                    exact absurd H (by simp)
              · rw [if_neg c7] at H
                have c7b0 : decide (x6_2 < 512) = false := decide_eq_false c7
                clear c7
                by_cases c20 : x3_1.length < 5864062014805
                · rw [if_pos c20] at H
                  have LMc20 := Aside0.mk c20
                  clear c20
                  obtain ⟨y109, hy109⟩ : ∃ y_ : List (List Int), y_ = (x3_1 ++ [x5_2]) := ⟨_, rfl⟩
                  replace H : (reelkeeperref03_Cut.l0 k2 a0 y109 (wrap64 (x4_1 + 1))) = some r := by first | (rw [hy109]; with_reducible exact H) | (have H2_ := (Option.bind_some _ _).symm.trans H; rw [hy109]; with_reducible exact H2_) | (have H2_ := (Option.bind_some _ _).symm.trans H; with_reducible exact H2_) | with_reducible exact H | (rw [hy109]; exact H) | exact H
                  have Ny109 := Aside0.mk hy109
                  clear hy109
                  have H' := Aside0.mk H
                  clear H
                  obtain ⟨Ao22, co22, eo22⟩ := Kd.R_slice HO_5.out
                  subst eo22
                  go_wp2_with (first | ((with_reducible refine gate_builtin (b := .append) (xs := #[.tmp 37, .tmp 39]) rfl ?_); (try (refine gate_guard (by rfl) ?_; dsimp only)); at_builtin; refine Kd.R_append (Kd.slice 5 (Kd.int .u8)) (w0 := w) w.heap.size rfl (.tmp 37) (.tmp 39) 24 41 (.slice none 0 0) 24 rfl Try.underlying24 info41 rfl (by decide) (by omega) u3 x3_1 x5_2 [.slice Ao22 x5_2.length co22] (fun _ => True) (fun k_ => ((fun _ => True)) k_ ∧ some k_ ≠ (u3 : Value).ownBlock) rfl rfl ?aP (fun _ hk => hk) ?aF ?aO ?aB ?aS ?aL ?_; (case aP => exact Kd.M_row (Kd.R_mono (Kd.R_apart' (HO_5.out) (Kd.R_typed HO_3.out) (by decide)) (fun k_ hk => ⟨trivial, hk.2⟩))); (case aB => exact (by repeat (first | (with_reducible first | exact HB.out | apply below_alloc | apply pw_below_drewN | apply below_drew1) | exact HB.out))); (case aF => exact (fun _ _ => trivial)); (case aO => exact (by (with_reducible repeat (first | apply Kd.R_alloc | apply Kd.R_drewN | apply Kd.R_drew)); exact Kd.R_mono HO_3.out (fun _ hk => trivial))); (case aS => exact (below_size (by repeat (first | (with_reducible first | exact HB.out | apply below_alloc | apply pw_below_drewN | apply below_drew1) | exact HB.out)))); (case aL => have := LMc20.out; omega); intro v110 w21 ho hb hg hat; rw [← Ny109.out] at ho; have n0_ := Aside0.mk (hb); have n1_ := Aside0.mk (ho); clear HB; clear HO_3; clear HO_5; have HB := n0_; have HO111 := n1_; clear n0_ n1_; clear ho hb hg hat))
                  go_roundg k2
                  case measure => have := HK1.out; have := HK2.out; omega
                  case rel => exact ⟨(y109), (wrap64 (x4_1 + 1)), (by first | rfl | (simp; done) | (simp [*]; done)), H', ⟨by have := HK1.out; have := HK2.out; omega⟩, ⟨by (with_reducible repeat (first | apply Kd.R_alloc | apply Kd.R_drewN | apply Kd.R_drew)); exact HO111.out⟩, ⟨by repeat (first | (with_reducible first | exact HB.out | apply below_alloc | apply pw_below_drewN | apply below_drew1) | exact HB.out)⟩⟩
                · rw [if_neg c20] at H
                  exact absurd H (by simp)
        · rw [if_neg c4] at H
          exact absurd H (by simp)
      · rw [if_neg c3] at H
        have c3b0 : decide (x4_1 < t101) = false := decide_eq_false c3
        clear c3
        obtain rfl := Option.some.inj H
        go_wp2_with (first | ((with_reducible refine gate_callee (f := 63) rfl ?_); refine goesL_ (some 10) rfl rfl Try.func63 (by kernel_rfl) rfl #[.int .i64 (a0.size : Int)] rfl (by (try simp only [List.map_toArray, List.map_cons, List.map_nil]); first | done | rfl | (simp only [List.length_drop, List.length_take]; rfl)) ?_; (with_reducible refine (reelkeeperref03_Many.calls (a0.size : Int) t101 _ A2.out).mono ?_); rintro e w' ⟨rfl, ⟨nd, rfl⟩⟩; refine ⟨_, rfl, ?_⟩))
        go_ret
        exact ⟨_, by first | rfl | (simp [errW_none, errW_some] <;> rfl) | (simp [*, errW_none, errW_some] <;> rfl), by (with_reducible repeat (first | apply Kd.R_alloc | apply Kd.R_drewN | apply Kd.R_drew)); exact HO_3.out, by repeat (first | (with_reducible first | exact HB.out | apply below_alloc | apply pw_below_drewN | apply below_drew1) | exact HB.out)⟩

end Go.Proofs.Ytekfgmpldgoglaa.X
