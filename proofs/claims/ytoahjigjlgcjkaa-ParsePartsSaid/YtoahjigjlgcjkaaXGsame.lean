import Derived.Test.YtoahjigjlgcjkaaXK
import Derived.Laws.EntriesVeiled
import Derived.WalkSpells
namespace Go.Proofs.Ytoahjigjlgcjkaa.X
open Go.RowKit Go.Proofs.YtoahjigjlgcjkaaW.PrintWords Go.Proofs.YtoahjigjlgcjkaaW.PrintLast Go.Proofs.YtoahjigjlgcjkaaW.PrintMore
attribute [local go_sem] max2_int min2_int max_two min_two
set_option linter.unusedVariables false
set_option linter.unusedSimpArgs false

set_option maxRecDepth 100000 in
set_option maxHeartbeats 3200000 in
theorem slices_EqualB.at_ (A : Option Addr) (c : Nat) (x : List Int) (B : Option Addr) (d : Nat) (y : List Int) (w : World) (hx : Kd.C (Kd.int .u8) w A x.length x) (hc : x.length ≤ c) (hy : Kd.C (Kd.int .u8) w B y.length y) (hd : y.length ≤ d) :
    Calls Try.prog 94 #[.slice A x.length c, .slice B y.length d] w fun e w' => e = .returned (.bool (decide (x = y))) ∧ Drawn0 w w' := by
  have hm : x.length ≤ 9223372036854775807 := hx.2.1
  by_cases hl : x.length = y.length
  case neg =>
    rw [decide_eq_false (fun e => hl (by rw [e]))]
    have b1 : ((x.length : Int) == (y.length : Int)) = false := beq_false_of_ne (by omega)
    have b2 : ((x.length : Int) != (y.length : Int)) = true := by simp only [bne, b1]; rfl
    clear hl hx hy
    go_enter Try.func94, Try.ntmps94
    go_wp2
    go_ret
    exact ⟨rfl, Drawn0.refl _⟩
  case pos =>
    have b1 : ((x.length : Int) == (y.length : Int)) = true := beq_iff_eq.2 (by omega)
    have b2 : ((x.length : Int) != (y.length : Int)) = false := by simp only [bne, b1]; rfl
    have HX := Aside0.mk hx
    have HY := Aside0.mk hy
    have HL := Aside0.mk hl
    clear hx hy hl
    go_enter Try.func94, Try.ntmps94
    go_wp2
    clear b1 b2
    go_loopw [5, 13] (fun _ v13 wr => ∃ i : Nat, v13 = .int .i64 i ∧ i ≤ x.length ∧ Aside0 (∀ j : Nat, j < i → rd x (j : Int) = rd y (j : Int)) ∧ Aside0 (Drawn0 w wr)) (fun _ v13 _ => x.length - (intOf v13).toNat)
    case atStart => exact ⟨0, rfl, Nat.zero_le _, ⟨fun j hj => absurd hj (Nat.not_lt_zero _)⟩, ⟨Drawn0.refl _⟩⟩
    case round =>
      obtain ⟨i, rfl, hi, HP, HD⟩ := hrel
      obtain ⟨⟨n0, rfl⟩⟩ := HD.out
      by_cases hlt : i < x.length
      · obtain ⟨ad1, rfl, h1⟩ := Kd.at_int HX.out (i : Int) (by omega) (by omega)
        obtain ⟨ad2, rfl, h2⟩ := Kd.at_int HY.out (i : Int) (by omega) (by have := HL.out; omega)
        rw [Int.toNat_natCast] at h1 h2
        have hi0 : (0 : Int) ≤ (i : Int) := by omega
        have hi1 : (i : Int) < (x.length : Int) := by omega
        have hi2 : (i : Int) < (y.length : Int) := by have := HL.out; omega
        by_cases he : rd x (i : Int) = rd y (i : Int)
        · have f1 : (rd x (i : Int) == rd y (i : Int)) = true := beq_iff_eq.2 he
          have HE := Aside0.mk he
          clear he
          go_upto_region 6 with (fail)
          go_quiet (fail)
          go_wp2
          go_roundw
          case rel => exact ⟨i + 1, by go_num, by omega, ⟨fun j hj => by
            rcases Nat.lt_or_ge j i with c1 | c1
            · exact HP.out j c1
            · obtain rfl : j = i := by omega
              exact HE.out⟩, ⟨by repeat (first | exact Drawn0.refl _ | apply Drawn0.step)⟩⟩
          case measure => simp [intOf]; omega
        · have f1 : (rd x (i : Int) == rd y (i : Int)) = false := beq_eq_false_iff_ne.2 he
          have HE := Aside0.mk he
          clear he
          go_upto_region 6 with (fail)
          go_quiet (fail)
          go_wp2
          go_ret
          refine ⟨?_, by repeat (first | exact Drawn0.refl _ | apply Drawn0.step)⟩
          rw [decide_eq_false (fun e => HE.out (by rw [e]))]
          rfl
      · go_wp2
        go_ret
        refine ⟨?_, by repeat (first | exact Drawn0.refl _ | apply Drawn0.step)⟩
        have : x = y := by
          refine List.ext_getElem HL.out fun j g1 g2 => ?_
          have h_ := HP.out j (by omega)
          unfold rd at h_
          rw [Int.toNat_natCast, List.getD_eq_getElem?_getD, List.getD_eq_getElem?_getD, List.getElem?_eq_getElem g1, List.getElem?_eq_getElem g2] at h_
          exact h_
        rw [decide_eq_true this]
        rfl
end Go.Proofs.Ytoahjigjlgcjkaa.X
