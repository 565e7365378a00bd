import Derived.Test.YtekfgmpldgoglaaXK
import Derived.Test.YtekfgmpldgoglaaXGhead
import Derived.Test.YtekfgmpldgoglaaXGnum
import Derived.Test.YtekfgmpldgoglaaYAll
import Derived.Laws.EntriesVeiled
import Derived.WalkSpells
namespace Go.Proofs.Ytekfgmpldgoglaa.X
open Go.RowKit Go.Proofs.YtekfgmpldgoglaaW.PrintWords Go.Proofs.YtekfgmpldgoglaaW.PrintLast Go.Proofs.YtekfgmpldgoglaaW.PrintMore
attribute [local go_sem] max2_int min2_int max_two min_two
set_option linter.unusedVariables false
set_option linter.unusedSimpArgs false

/-! ### reelkeeperref01_Octal: function 105 -/
mutual
def reelkeeperref01_Octal.j0 : Nat → Int → Int → Bool → Option (ByteArray × Bool)
  | 0, _, _, _ => none
  | k + 1, x0, x1, x17 => if x17 = true then (some ((⟨#[]⟩ : ByteArray), false)) else (reelkeeperref01_Octal.l0 k x0 x1 (⟨#[]⟩ : ByteArray) 0)
def reelkeeperref01_Octal.l0 : Nat → Int → Int → ByteArray → Int → Option (ByteArray × Bool)
  | 0, _, _, _, _ => none
  | k + 1, x0, x1, x6, x7 => if x7 < x1 then (if 0 ≤ (Int.tmod x0 8) then (if (Int.tmod x0 8) ≤ (wrap64 ((Int.tmod x0 8) + 1)) then (if (wrap64 ((Int.tmod x0 8) + 1)) ≤ 8 then (if ((⟨#[48, 49, 50, 51, 52, 53, 54, 55]⟩ : ByteArray).extract ((Int.tmod x0 8) : Int).toNat ((wrap64 ((Int.tmod x0 8) + 1)) : Int).toNat).size + x6.size ≤ 9223372036854775807 then (reelkeeperref01_Octal.l0 k (wrap64 (Int.tdiv x0 8)) x1 (((⟨#[48, 49, 50, 51, 52, 53, 54, 55]⟩ : ByteArray).extract ((Int.tmod x0 8) : Int).toNat ((wrap64 ((Int.tmod x0 8) + 1)) : Int).toNat) ++ x6) (wrap64 (x7 + 1))) else (none)) else (none)) else (none)) else (none)) else (if x0 > 0 then (some ((⟨#[]⟩ : ByteArray), false)) else (some (x6, true)))
end
def reelkeeperref01_Octal.f (k : Nat) (a0 : Int) (a1 : Int) : Option (ByteArray × Bool) := if a0 < 0 then (reelkeeperref01_Octal.j0 k a0 a1 true) else (if a1 < 1 then (reelkeeperref01_Octal.j0 k a0 a1 true) else (reelkeeperref01_Octal.j0 k a0 a1 (decide (a1 > 20))))
theorem reelkeeperref01_Octal.mono_l : ∀ k, (∀ y0 y1 y2, LeO (reelkeeperref01_Octal.j0 k y0 y1 y2) (reelkeeperref01_Octal.j0 (k + 1) y0 y1 y2)) ∧ (∀ y0 y1 y2 y3, LeO (reelkeeperref01_Octal.l0 k y0 y1 y2 y3) (reelkeeperref01_Octal.l0 (k + 1) y0 y1 y2 y3))
  | 0 => ⟨fun _ _ _ r h => by simp [reelkeeperref01_Octal.j0] at h, fun _ _ _ _ r h => by simp [reelkeeperref01_Octal.l0] at h⟩
  | k + 1 => by
    obtain ⟨ih0, ih1⟩ := reelkeeperref01_Octal.mono_l k
    refine ⟨?_, ?_⟩
    · intro y0 y1 y2
      unfold reelkeeperref01_Octal.j0
      repeat' first
      | (with_reducible exact ih0 _ _ _)
      | (with_reducible exact ih1 _ _ _ _)
      | (with_reducible exact LeO.refl _)
      | (with_reducible exact LeO.none _)
      | (with_reducible refine LeO.ite ?_ ?_)
      | (with_reducible refine LeO.bind ?_ (fun _ => ?_))
      | exact ih0 _ _ _
      | exact ih1 _ _ _ _
      | exact LeO.none _
      | refine LeO.ite ?_ ?_
      | refine LeO.bind ?_ (fun _ => ?_)
    · intro y0 y1 y2 y3
      unfold reelkeeperref01_Octal.l0
      repeat' first
      | (with_reducible exact ih0 _ _ _)
      | (with_reducible exact ih1 _ _ _ _)
      | (with_reducible exact LeO.refl _)
      | (with_reducible exact LeO.none _)
      | (with_reducible refine LeO.ite ?_ ?_)
      | (with_reducible refine LeO.bind ?_ (fun _ => ?_))
      | exact ih0 _ _ _
      | exact ih1 _ _ _ _
      | exact LeO.none _
      | refine LeO.ite ?_ ?_
      | refine LeO.bind ?_ (fun _ => ?_)
theorem reelkeeperref01_Octal.mono : ∀ a0 a1 k, LeO (reelkeeperref01_Octal.f k a0 a1) (reelkeeperref01_Octal.f (k + 1) a0 a1) := by
  intro a0 a1 k
  obtain ⟨ih0, ih1⟩ := reelkeeperref01_Octal.mono_l k
  unfold reelkeeperref01_Octal.f
  repeat' first
      | (with_reducible exact ih0 _ _ _)
      | (with_reducible exact ih1 _ _ _ _)
      | (with_reducible exact LeO.refl _)
      | (with_reducible exact LeO.none _)
      | (with_reducible refine LeO.ite ?_ ?_)
      | (with_reducible refine LeO.bind ?_ (fun _ => ?_))
      | exact ih0 _ _ _
      | exact ih1 _ _ _ _
      | exact LeO.none _
      | refine LeO.ite ?_ ?_
      | refine LeO.bind ?_ (fun _ => ?_)
set_option maxHeartbeats 8000000 in
set_option maxRecDepth 100000 in
theorem reelkeeperref01_Octal.calls (k : Nat) (a0 : Int) (a1 : Int) (r1 : ByteArray) (r2 : Bool) (w : World) (h : reelkeeperref01_Octal.f k a0 a1 = some (r1, r2)) :
    Calls Try.prog 105 #[.int .i64 a0, .int .i64 a1] w fun e w' => e = .returned (.tuple #[.string r1, .bool r2]) ∧ Drawn0 w w' := by
  have H : (if a0 < 0 then (reelkeeperref01_Octal.j0 k a0 a1 true) else (if a1 < 1 then (reelkeeperref01_Octal.j0 k a0 a1 true) else (reelkeeperref01_Octal.j0 k a0 a1 (decide (a1 > 20))))) = some (r1, r2) := h
  clear h
  have HC3 := Aside0.mk H
  clear H
  go_enter Try.func105, Try.ntmps105
  go_upto_region 1 with (fail)
  go_cut [17] (fun v17 wc => ∃ (kq : Nat) (x17_2 : Bool), v17 = .bool x17_2 ∧ Aside0 (reelkeeperref01_Octal.j0 kq a0 a1 x17_2 = some (r1, r2)) ∧ Aside0 (kq ≤ k) ∧ Drawn0 w wc)
  case first =>
    have H := HC3.out
    clear HC3
    by_cases c4 : a0 < 0
    · rw [if_pos c4] at H
      have c4b0 : decide (a0 < 0) = true := decide_eq_true c4
      clear c4
      (first | rw [c4b0] | (simp only [i64_w, i32_w]; rw [c4b0]) | skip)
      have H' := Aside0.mk H
      clear H
      go_wp2
      go_meet
      case rel => exact ⟨_, (true), (by first | rfl | (simp; done) | (simp [*]; done)), H', ⟨by first | omega | exact Nat.le_refl _⟩, by repeat (first | exact Drawn0.refl _ | apply Drawn0.step)⟩
    · rw [if_neg c4] at H
      have c4b0 : decide (a0 < 0) = false := decide_eq_false c4
      clear c4
      (first | rw [c4b0] | (simp only [i64_w, i32_w]; rw [c4b0]) | skip)
      by_cases c5 : a1 < 1
      · rw [if_pos c5] at H
        have c5b0 : decide (a1 < 1) = true := decide_eq_true c5
        clear c5
        have H' := Aside0.mk H
        clear H
        go_wp2
        go_meet
        case rel => exact ⟨_, (true), (by first | rfl | (simp; done) | (simp [*]; done)), H', ⟨by first | omega | exact Nat.le_refl _⟩, by repeat (first | exact Drawn0.refl _ | apply Drawn0.step)⟩
      · rw [if_neg c5] at H
        have c5b0 : decide (a1 < 1) = false := decide_eq_false c5
        clear c5
        have H' := Aside0.mk H
        clear H
        go_wp2
        go_meet
        case rel => exact ⟨_, (decide (a1 > 20)), (by first | rfl | (simp; done) | (simp [*]; done)), H', ⟨by first | omega | exact Nat.le_refl _⟩, by repeat (first | exact Drawn0.refl _ | apply Drawn0.step)⟩
  case rest =>
    clear HC3
    try clear c1
    try clear p2
    try clear c4
    try clear c4b0
    try clear c5
    try clear c5b0
    obtain ⟨kq, x17_2, rfl, HA, HJ2, ⟨mc2, rfl⟩⟩ := hcut
    cases kq with
    | zero => exact absurd HA.out (by simp [reelkeeperref01_Octal.j0])
    | succ kj2 =>
      have H := HA.out
      clear HA
      simp only [reelkeeperref01_Octal.j0] at H
      by_cases c6 : x17_2 = true
      · subst c6
        have H1 : (some ((⟨#[]⟩ : ByteArray), false)) = some (r1, r2) := by rw [if_pos rfl] at H; exact H
        clear H
        have H := H1
        clear H1
        simp only [Option.some.injEq, Prod.mk.injEq] at H
        obtain ⟨rfl, rfl⟩ := H
        go_wp2
        go_ret2
        exact ⟨by first | rfl | (simp; done) | (simp [*]; done), by repeat (first | exact Drawn0.refl _ | apply Drawn0.step)⟩
      · replace c6 := Bool.eq_false_iff.mpr c6
        subst c6
        have H1 : (reelkeeperref01_Octal.l0 kj2 a0 a1 (⟨#[]⟩ : ByteArray) 0) = some (r1, r2) := by rw [if_neg (show ¬ (false = true) by decide)] at H; exact H
        clear H
        have H := H1
        clear H1
        have H' := Aside0.mk H
        clear H
        go_wp2
        go_loopg [0, 6, 7] kj2 (fun kq v0 v6 v7 w' => ∃ (x0_2 : Int) (x6_2 : ByteArray) (x7_2 : Int), v0 = .int .i64 x0_2 ∧ v6 = .string x6_2 ∧ v7 = .int .i64 x7_2 ∧ Aside0 (reelkeeperref01_Octal.l0 kq x0_2 a1 x6_2 x7_2 = some (r1, r2)) ∧ Aside0 (kq ≤ kj2) ∧ Drawn0 w w')
        case atStart => exact ⟨(a0), ((⟨#[]⟩ : ByteArray)), (0), (by first | rfl | (simp; done) | (simp [*]; done)), (by first | rfl | (simp; done) | (simp [*]; done)), (by first | rfl | (simp; done) | (simp [*]; done)), H', ⟨Nat.le_refl _⟩, by repeat (first | exact Drawn0.refl _ | apply Drawn0.step)⟩
        case round =>
          clear H'
          try clear c1
          try clear c2
          try clear p2
          try clear c4
          try clear c4b0
          try clear c5
          try clear c5b0
          try clear c6
          try clear p2
          obtain ⟨x0_2, x6_2, x7_2, rfl, rfl, rfl, HA, HK2, ⟨m2, rfl⟩⟩ := hrel
          cases gk with
          | zero => exact absurd HA.out (by simp [reelkeeperref01_Octal.l0])
          | succ k2 =>
            have H := HA.out
            clear HA
            simp only [reelkeeperref01_Octal.l0] at H
            by_cases c7 : x7_2 < a1
            · rw [if_pos c7] at H
              have c7b0 : decide (x7_2 < a1) = true := decide_eq_true c7
              clear c7
              obtain ⟨ji8, hji8⟩ : ∃ j_ : Int, (Int.tmod x0_2 8) = j_ := ⟨_, rfl⟩
              replace H : (if 0 ≤ (ji8) then (if (ji8) ≤ (wrap64 ((ji8) + 1)) then (if (wrap64 ((ji8) + 1)) ≤ 8 then (if ((⟨#[48, 49, 50, 51, 52, 53, 54, 55]⟩ : ByteArray).extract ((ji8) : Int).toNat ((wrap64 ((ji8) + 1)) : Int).toNat).size + x6_2.size ≤ 9223372036854775807 then (reelkeeperref01_Octal.l0 k2 (wrap64 (Int.tdiv x0_2 8)) a1 (((⟨#[48, 49, 50, 51, 52, 53, 54, 55]⟩ : ByteArray).extract ((ji8) : Int).toNat ((wrap64 ((ji8) + 1)) : Int).toNat) ++ x6_2) (wrap64 (x7_2 + 1))) else (none)) else (none)) else (none)) else (none)) = some (r1, r2) := by first | (rw [hji8] at H; exact H) | (simp only [hji8] at H ⊢; exact H)
              by_cases c9 : 0 ≤ (ji8)
              · rw [if_pos c9] at H
                have c9b0 := eq_true c9
                have c9b1 : decide (0 ≤ (ji8)) = true := decide_eq_true c9
                clear c9
                by_cases c10 : (ji8) ≤ (wrap64 ((ji8) + 1))
                · rw [if_pos c10] at H
                  have c10b0 := eq_true c10
                  have c10b1 : decide ((ji8) ≤ (wrap64 ((ji8) + 1))) = true := decide_eq_true c10
                  by_cases c11 : (wrap64 ((ji8) + 1)) ≤ 8
                  · rw [if_pos c11] at H
                    have c11b0 := eq_true c11
                    have c11b1 : decide ((wrap64 ((ji8) + 1)) ≤ 8) = true := decide_eq_true c11
                    by_cases c12 : ((⟨#[48, 49, 50, 51, 52, 53, 54, 55]⟩ : ByteArray).extract ((ji8) : Int).toNat ((wrap64 ((ji8) + 1)) : Int).toNat).size + x6_2.size ≤ 9223372036854775807
                    · rw [if_pos c12] at H
                      have c12b0 := eq_true c12
                      have c12b1 : decide (((⟨#[48, 49, 50, 51, 52, 53, 54, 55]⟩ : ByteArray).extract ((ji8) : Int).toNat ((wrap64 ((ji8) + 1)) : Int).toNat).size + x6_2.size ≤ 9223372036854775807) = true := decide_eq_true c12
                      try have c12b2 : (9223372036854775807 < ((⟨#[48, 49, 50, 51, 52, 53, 54, 55]⟩ : ByteArray).extract ((ji8) : Int).toNat ((wrap64 ((ji8) + 1)) : Int).toNat).size + x6_2.size) = False := eq_false (Nat.not_lt.2 c12)
                      have H' := Aside0.mk H
                      clear H
                      go_wp2
                      go_roundg k2
                      case measure => have := HJ2.out; have := HK2.out; omega
                      case rel => exact ⟨(wrap64 (Int.tdiv x0_2 8)), (((⟨#[48, 49, 50, 51, 52, 53, 54, 55]⟩ : ByteArray).extract ((ji8) : Int).toNat ((wrap64 ((ji8) + 1)) : Int).toNat) ++ x6_2), (wrap64 (x7_2 + 1)), (by first | rfl | (simp; done) | (simp [*]; done)), (by first | rfl | (simp; done) | (simp only [← hji8] <;> (first | rfl | simp)) | (simp [*]; done)), (by first | rfl | (simp; done) | (simp [*]; done)), H', ⟨by have := HJ2.out; have := HK2.out; omega⟩, by repeat (first | exact Drawn0.refl _ | apply Drawn0.step)⟩
                    · rw [if_neg c12] at H
                      exact absurd H (by simp)
                  · rw [if_neg c11] at H
                    exact absurd H (by simp)
                · rw [if_neg c10] at H
                  exact absurd H (by simp)
              · rw [if_neg c9] at H
                exact absurd H (by simp)
            · rw [if_neg c7] at H
              have c7b0 : decide (x7_2 < a1) = false := decide_eq_false c7
              clear c7
              by_cases c13 : x0_2 > 0
              · rw [if_pos c13] at H
                have c13b0 : decide (0 < x0_2) = true := decide_eq_true c13
                clear c13
                simp only [Option.some.injEq, Prod.mk.injEq] at H
                obtain ⟨rfl, rfl⟩ := H
                go_wp2
                go_ret2
                exact ⟨by first | rfl | (simp; done) | (simp [*]; done), by repeat (first | exact Drawn0.refl _ | apply Drawn0.step)⟩
              · rw [if_neg c13] at H
                have c13b0 : decide (0 < x0_2) = false := decide_eq_false c13
                clear c13
                simp only [Option.some.injEq, Prod.mk.injEq] at H
                obtain ⟨rfl, rfl⟩ := H
                go_wp2
                go_ret2
                exact ⟨by first | rfl | (simp; done) | (simp [*]; done), by repeat (first | exact Drawn0.refl _ | apply Drawn0.step)⟩

end Go.Proofs.Ytekfgmpldgoglaa.X
namespace Go.Proofs.Ytekfgmpldgoglaa.X
open Go.RowKit Go.Proofs.YtekfgmpldgoglaaW.PrintWords Go.Proofs.YtekfgmpldgoglaaW.PrintLast Go.Proofs.YtekfgmpldgoglaaW.PrintMore
attribute [local go_sem] max2_int min2_int max_two min_two
set_option linter.unusedVariables false
set_option linter.unusedSimpArgs false

open Go.Proofs.YtekfgmpldgoglaaY
theorem digit_cut (m : Nat) (h : m < 8) : (⟨#[48, 49, 50, 51, 52, 53, 54, 55]⟩ : ByteArray).extract m (m + 1) = ⟨#[(48 + m).toUInt8]⟩ := by
  apply ByteArray.ext
  rw [ByteArray.data_extract]
  have : m = 0 ∨ m = 1 ∨ m = 2 ∨ m = 3 ∨ m = 4 ∨ m = 5 ∨ m = 6 ∨ m = 7 := by omega
  rcases this with rfl | rfl | rfl | rfl | rfl | rfl | rfl | rfl <;> simp
theorem strOfNums_cons (a : Nat) (h : a < 256) (l : List Int) : (⟨#[a.toUInt8]⟩ : ByteArray) ++ strOfNums l = strOfNums ((a : Int) :: l) := by
  apply ByteArray.ext
  show (_ ++ _ : ByteArray).data = _
  rw [ByteArray.data_append]
  unfold strOfNums
  simp only [List.map_cons, Int.toNat_natCast]
  rw [← Array.toList_inj]
  simp
theorem ref_octal_loop (n d : Nat) (hn : n ≤ 9223372036854775807) (hd : d ≤ 20) : ∀ (e i x : Nat), i + e = d → n / 8 ^ i = x → Ev (fun k => reelkeeperref01_Octal.l0 k (x : Int) (d : Int) (strOfNums (octL n i)) (i : Int)) (if n / 8 ^ d = 0 then (strOfNums (octL n d), true) else (⟨#[]⟩, false)) := by
  intro e
  induction e with
  | zero =>
    intro i x hi hx
    obtain rfl : i = d := by omega
    refine Ev.step (fun _ => rfl) ?_
    simp only [reelkeeperref01_Octal.l0]
    refine Ev.ifn (by omega) ?_
    rw [hx]
    by_cases h0 : x = 0
    · rw [if_pos h0]
      exact Ev.ifn (by omega) (Ev.now _)
    · rw [if_neg h0]
      exact Ev.ifp (by omega) (Ev.now _)
  | succ e ih =>
    intro i x hi hx
    have hxn : x ≤ n := by rw [← hx]; exact Nat.div_le_self _ _
    have hm : Int.tmod (x : Int) 8 = ((x % 8 : Nat) : Int) := by rw [Int.tmod_eq_emod_of_nonneg (by omega)]; omega
    have hdv : Int.tdiv (x : Int) 8 = ((x / 8 : Nat) : Int) := by rw [Int.tdiv_eq_ediv_of_nonneg (by omega)]; omega
    have hm8 : x % 8 < 8 := Nat.mod_lt _ (by decide)
    refine Ev.step (fun _ => rfl) ?_
    simp only [reelkeeperref01_Octal.l0]
    rw [hm, hdv]
    have hw1 : wrap64 (((x % 8 : Nat) : Int) + 1) = ((x % 8 + 1 : Nat) : Int) := by unfold wrap64; omega
    have hw2 : wrap64 ((x / 8 : Nat) : Int) = ((x / 8 : Nat) : Int) := by unfold wrap64; omega
    have hw3 : wrap64 ((i : Int) + 1) = ((i + 1 : Nat) : Int) := by unfold wrap64; omega
    rw [hw1, hw2, hw3]
    clear hw1 hw2 hw3 hm hdv
    simp only [Int.toNat_natCast]
    rw [digit_cut _ hm8]
    refine Ev.ifp (by omega) ?_
    refine Ev.ifp (by omega) ?_
    refine Ev.ifp (by omega) ?_
    refine Ev.ifp (by omega) ?_
    refine Ev.ifp ?_ ?_
    · rw [strOfNums_size, octL_length]
      show 1 + i ≤ _
      omega
    · rw [strOfNums_cons _ (by omega)]
      have := octL_cons i n
      rw [hx] at this
      rw [← this]
      exact ih (i + 1) (x / 8) (by omega) (by rw [Nat.pow_succ, ← Nat.div_div_eq_div_mul, hx])
theorem ref_octal (n d : Nat) (hn : n ≤ 9223372036854775807) (hd : 1 ≤ d ∧ d ≤ 20) : Ev (fun k => reelkeeperref01_Octal.f k (n : Int) (d : Int)) (if n / 8 ^ d = 0 then (strOfNums (octL n d), true) else (⟨#[]⟩, false)) := by
  unfold reelkeeperref01_Octal.f
  refine Ev.ifn (by omega) ?_
  refine Ev.ifn (by omega) ?_
  rw [decide_eq_false (by omega)]
  refine Ev.step (fun _ => rfl) ?_
  simp only [reelkeeperref01_Octal.j0, Bool.false_eq_true, if_false]
  have := ref_octal_loop n d hn hd.2 d 0 n (by omega) (by rw [Nat.pow_zero, Nat.div_one])
  exact this
set_option maxHeartbeats 1600000 in
set_option maxRecDepth 100000 in
theorem ref01_Put.at_ (a0 a1 : Int) (l : List Int) (b : Bool) (w : World) (h9 : a0 ≤ 9223372036854775807) (h : Aside0 (putN a0 a1 = (l, b))) :
    Calls Try.prog 104 #[.int .i64 a0, .int .i64 a1] w fun e w' => ∃ A c, e = .returned (.tuple #[.slice A l.length c, .bool b]) ∧ l.length ≤ c ∧ Kd.C (Kd.int .u8) w' A l.length l ∧ Below w.heap.size w w' ∧ (∀ ad, A = some ad → w.heap.size ≤ ad.block) := by
  have hr := h.out
  clear h
  unfold putN at hr
  by_cases c2 : a1 < 2
  · rw [if_pos (.inr (.inl c2))] at hr
    obtain ⟨rfl, rfl⟩ := Prod.mk.inj hr
    have c2b := decide_eq_true c2
    clear c2 hr
    go_enter Try.func104, Try.ntmps104
    go_wp2
    go_ret2
    exact ⟨none, 0, rfl, Nat.le_refl _, Kd.C_nil _ _, Below.refl _ _, fun _ h => by cases h⟩
  have c2b := decide_eq_false c2
  by_cases c3 : a1 > 20
  · rw [if_pos (.inr (.inr c3))] at hr
    obtain ⟨rfl, rfl⟩ := Prod.mk.inj hr
    have c3b := decide_eq_true c3
    clear c2 c3 hr
    go_enter Try.func104, Try.ntmps104
    go_wp2
    go_ret2
    exact ⟨none, 0, rfl, Nat.le_refl _, Kd.C_nil _ _, Below.refl _ _, fun _ h => by cases h⟩
  have c3b := decide_eq_false c3
  by_cases c1 : a0 < 0
  · rw [if_pos (.inl c1)] at hr
    obtain ⟨rfl, rfl⟩ := Prod.mk.inj hr
    have c1b := decide_eq_true c1
    clear c2 c3 c1 hr
    go_enter Try.func104, Try.ntmps104
    go_wp2
    go_ret2
    exact ⟨none, 0, rfl, Nat.le_refl _, Kd.C_nil _ _, Below.refl _ _, fun _ h => by cases h⟩
  have c1b := decide_eq_false c1
  rw [if_neg (by omega)] at hr
  obtain ⟨n, rfl⟩ := Int.eq_ofNat_of_zero_le (show 0 ≤ a0 by omega)
  obtain ⟨d, rfl⟩ : ∃ d : Nat, a1 = ((d + 1 : Nat) : Int) := ⟨a1.toNat - 1, by omega⟩
  have hd : 1 ≤ d ∧ d ≤ 19 := by omega
  simp only [Int.toNat_natCast, Nat.add_sub_cancel] at hr
  obtain ⟨kk, hkk⟩ := (ref_octal n d (by omega) (by omega)).rounds
  have hoct : ∀ W, Calls Try.prog 105 #[.int .i64 n, .int .i64 d] W fun e w' => e = .returned (.tuple #[.string (if n / 8 ^ d = 0 then (strOfNums (octL n d), true) else (⟨#[]⟩, false)).1, .bool (if n / 8 ^ d = 0 then (strOfNums (octL n d), true) else (⟨#[]⟩, false)).2]) ∧ Below W.heap.size W w' := fun W => (reelkeeperref01_Octal.calls kk (n : Int) (d : Int) (if n / 8 ^ d = 0 then (strOfNums (octL n d), true) else (⟨#[]⟩, false)).1 (if n / 8 ^ d = 0 then (strOfNums (octL n d), true) else (⟨#[]⟩, false)).2 W hkk).mono (fun _ _ h => ⟨h.1, h.2.below⟩)
  have hds : ((d + 1 : Nat) : Int) - 1 = (d : Int) := by omega
  clear hkk c2 c1 c3
  by_cases c3 : n / 8 ^ d = 0
  · rw [if_pos c3] at hr
    obtain ⟨rfl, rfl⟩ := Prod.mk.inj hr
    rw [if_pos c3] at hoct
    simp only at hoct
    obtain ⟨txt, htxt⟩ : ∃ s, strOfNums (octL n d) = s := ⟨_, rfl⟩
    rw [htxt] at hoct
    have hbo : bytesOf txt = octL n d := by rw [← htxt]; exact bytes_of_nums _ (octL_range d n)
    have hsz : txt.size = d := by rw [← htxt, strOfNums_size, octL_length]
    have HBO := Aside0.mk hbo
    have HSZ := Aside0.mk hsz
    have kb := fun W => print_bytes (P := Try.prog) 9 41 5 Try.underlying9 Try.underlying41 Try.underlying5 txt W
    clear hr c3 htxt hbo hsz
    go_enter Try.func104, Try.ntmps104
    go_wp2_with (first | (go_at_call 105; refine (hoct _).mono ?_; rintro e w1 ⟨rfl, hb1⟩) | (at_builtin; go_must (refine wpList_append_bytes w1 rfl (.tmp 29) (.tmp 30) 41 5 rfl Try.underlying41 info5 txt [0] (by decide) rfl rfl (by have := HSZ.out; simp; omega) ?_; intro g c w2 hg hc hC hb2)))
    go_ret2
    have e : (octL n d ++ [0]).length = txt.size + 1 := by rw [List.length_append, octL_length, HSZ.out]; rfl
    rw [HBO.out] at hC hc
    rw [← e]
    have hz1 : w.heap.size ≤ w1.heap.size := hb1.size
    refine ⟨_, c, rfl, hc, hC, ?_, fun ad h => by cases h; exact Nat.le_trans hz1 hg⟩
    exact below_then hb1 hb1.size hb2
  rw [if_neg c3] at hr
  rw [if_neg c3] at hoct
  simp only at hoct
  have HR := Aside0.mk hr
  clear hr c3
  go_enter Try.func104, Try.ntmps104
  go_wp2_with (first | (go_at_call 105; refine (hoct _).mono ?_; rintro e w1 ⟨rfl, hb1⟩))
  have HB1 := Aside0.mk hb1
  have hn9 : n ≤ 9223372036854775807 := by omega
  clear hb1
  go_loopw [0, 8, 9] (fun v0 v8 v9 wr => ∃ (i x : Nat), v9 = .int .i64 i ∧ v0 = .int .i64 x ∧ i ≤ d ∧ x ≤ n ∧ Aside0 (n / 256 ^ i = x) ∧ (∃ A c, v8 = .slice A (bytL n i).length c) ∧ Aside0 (Kd.R (Kd.int .u8) 5 wr w1.heap.size (fun _ => True) v8 (bytL n i)) ∧ Aside0 (Below w1.heap.size w1 wr)) (fun _ _ v9 _ => d - (intOf v9).toNat)
  case atStart => exact ⟨0, n, rfl, rfl, Nat.zero_le _, Nat.le_refl _, ⟨by rw [Nat.pow_zero, Nat.div_one]⟩, ⟨_, _, rfl⟩, ⟨Kd.R_nil _ _ _ _ _⟩, ⟨Below.refl _ _⟩⟩
  case round =>
    obtain ⟨i, x, rfl, rfl, hi, hx, HXN, ⟨A, c, rfl⟩, HO, HBW⟩ := hrel
    by_cases hlt : i < d
    · have hm : Int.tmod (x : Int) 256 = ((x % 256 : Nat) : Int) := by rw [Int.tmod_eq_emod_of_nonneg (by omega)]; omega
      have hxr : (0 : Int) ≤ x := by omega
      have hlit := Aside0.mk (show Kd.R (Kd.int .u8) 5 (wr.alloc (.cells #[.int .u8 ((x % 256 : Nat) : Int)] 5)) w1.heap.size (fun _ => True) (.slice (some ⟨wr.heap.size, 0, none⟩) 1 1) [((x % 256 : Nat) : Int)] from R_of_block (l := [((x % 256 : Nat) : Int)]) (heap_alloc_new wr _) HBW.out.size (by simp))
      have hbl : (bytL n i).length = i := bytL_length i n
      have hread := Aside0.mk ((Kd.R_reads' (Kd.R_alloc HO.out (.cells #[.int .u8 ((x % 256 : Nat) : Int)] 5))).2.2)
      have HBA := Aside0.mk (HBW.out.alloc HBW.out.size (.cells #[.int .u8 ((x % 256 : Nat) : Int)] 5))
      have hsz := World.size_alloc wr (.cells #[.int .u8 ((x % 256 : Nat) : Int)] 5)
      have HSZ := Aside0.mk hsz
      have HS := Aside0.mk (show w1.heap.size ≤ wr.heap.size from HBW.out.size)
      have HLEN := Aside0.mk hbl
      clear hm hsz hbl HO
      go_wp2_with (at_builtin; (refine Kd.R_append_row (Value.int .u8) (0 : Int) (h1 := fun _ => rfl) (w0 := w1) (W := wr.alloc (.cells #[.int .u8 ((x % 256 : Nat) : Int)] 5)) w1.heap.size rfl (.tmp 41) (.tmp 42) 41 5 (.int .u8 0) 1 rfl Try.underlying41 info5 rfl (by decide) _ [((x % 256 : Nat) : Int)] (bytL n i) A (bytL n i).length c (fun _ => True) rfl rfl (fun _ _ => trivial) hlit.out hread.out HBA.out (by rw [HSZ.out]; have := HS.out; omega) (by have := HLEN.out; simp; omega) ?_; intro v1 w3 ho hb hg hat; obtain ⟨A5, c5, rfl⟩ := Kd.R_slice ho; clear hg hat))
      go_roundw
      case rel =>
        have e : [((x % 256 : Nat) : Int)] ++ bytL n i = bytL n (i + 1) := by rw [bytL_cons, HXN.out]; rfl
        have e2 : (bytL n (i + 1)).length = i + 1 := bytL_length _ _
        refine ⟨i + 1, x / 256, by go_num, by go_num, by omega, Nat.le_trans (Nat.div_le_self _ _) hx, ⟨?_⟩, ⟨A5, c5, ?_⟩, ⟨?_⟩, ⟨hb⟩⟩
        · rw [Nat.pow_succ, ← Nat.div_div_eq_div_mul, HXN.out]
        · rw [e2, HLEN.out]
        · have e3 : (bytL n i).length + 1 = (bytL n (i + 1)).length := by rw [e2, HLEN.out]
          rw [e3]
          rw [e] at ho
          exact ho
      case measure => simp [intOf]; omega
    · obtain rfl : i = d := by omega
      have hR := HR.out
      rw [HXN.out] at hR
      have HB := Aside0.mk (below_then HB1.out HB1.out.size HBW.out)
      by_cases hz : x = 0
      · subst hz
        rw [if_pos rfl] at hR
        obtain ⟨rfl, rfl⟩ := Prod.mk.inj hR
        have hlit := Aside0.mk (show Kd.R (Kd.int .u8) 5 (wr.alloc (.cells #[.int .u8 128] 5)) w1.heap.size (fun _ => True) (.slice (some ⟨wr.heap.size, 0, none⟩) 1 1) [128] from R_of_block (l := [128]) (heap_alloc_new wr _) HBW.out.size (by decide))
        have hread := Aside0.mk ((Kd.R_reads' (Kd.R_alloc HO.out (.cells #[.int .u8 128] 5))).2.2)
        have HBA := Aside0.mk (HBW.out.alloc HBW.out.size (.cells #[.int .u8 128] 5))
        have HSZ := Aside0.mk (World.size_alloc wr (.cells #[.int .u8 128] 5))
        have HS := Aside0.mk (show w1.heap.size ≤ wr.heap.size from HBW.out.size)
        have HLEN := Aside0.mk (bytL_length i n)
        clear HO hR
        go_wp2_with (at_builtin; (refine Kd.R_append_row (Value.int .u8) (0 : Int) (h1 := fun _ => rfl) (w0 := w1) (W := wr.alloc (.cells #[.int .u8 128] 5)) w1.heap.size rfl (.tmp 48) (.tmp 49) 41 5 (.int .u8 0) 1 rfl Try.underlying41 info5 rfl (by decide) _ [128] (bytL n i) A (bytL n i).length c (fun _ => True) rfl rfl (fun _ _ => trivial) hlit.out hread.out HBA.out (by rw [HSZ.out]; have := HS.out; omega) (by have := HLEN.out; simp; omega) ?_; intro v1 w3 ho hb hg hat; obtain ⟨A5, c5, rfl⟩ := Kd.R_slice ho; clear hg hat))
        go_ret2
        obtain ⟨_, h2, h3⟩ := Kd.R_reads' ho
        refine ⟨A5, c5, rfl, h2, h3, HB1.out.trans (hb.mono HB1.out.size), fun ad h => ?_⟩
        subst h
        exact Nat.le_trans HB1.out.size (Kd.R_base ho _ rfl)
      · rw [if_neg hz] at hR
        obtain ⟨rfl, rfl⟩ := Prod.mk.inj hR
        have hz2 : decide ((x : Int) > 0) = true := decide_eq_true (by omega)
        have hz3 : decide (0 < x) = true := decide_eq_true (by omega)
        clear hz HO hR
        go_wp2_with (fail)
        go_ret2
        exact ⟨none, 0, rfl, Nat.le_refl _, Kd.C_nil _ _, HB.out, fun _ h => by cases h⟩

end Go.Proofs.Ytekfgmpldgoglaa.X
