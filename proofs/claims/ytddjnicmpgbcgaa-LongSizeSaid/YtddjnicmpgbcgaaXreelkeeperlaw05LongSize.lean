import Derived.Test.YtddjnicmpgbcgaaXK
import Derived.Test.YtddjnicmpgbcgaaXGhead
import Derived.Test.YtddjnicmpgbcgaaXGlong
import Derived.Test.YtddjnicmpgbcgaaXGslices
import Derived.Test.YtddjnicmpgbcgaaXreelkeeperlaw05awake
import Derived.Test.YtddjnicmpgbcgaaP05h
import Derived.Test.YtddjnicmpgbcgaaP05i
import Derived.Test.YtddjnicmpgbcgaaPG02
import Derived.Test.YtddjnicmpgbcgaaPG03
import Derived.Test.YtddjnicmpgbcgaaPG05
import Derived.Deep.RegionHeld3
import Derived.Laws.EntriesVeiled
import Derived.RegionTactic
import Derived.WalkSpells
namespace Go.Proofs.Ytddjnicmpgbcgaa.X
open Go.RowKit Go.Proofs.YtddjnicmpgbcgaaW.PrintWords Go.Proofs.YtddjnicmpgbcgaaW.PrintLast Go.Proofs.YtddjnicmpgbcgaaW.PrintMore
attribute [local go_sem] max2_int min2_int max_two min_two max_three min_three max_four min_four
set_option linter.unusedVariables false
set_option linter.unusedSimpArgs false

open Go.Proofs.YtddjnicmpgbcgaaY
def reelkeeperlaw05_LongSize.f (k : Nat) (a0 : Int) (a1 : ByteArray) (a2 : Int) (a3 : ByteArray) : Option Bool := some true
theorem LongSize_told (a0 : Int) (a1 : ByteArray) (a2 : Int) (a3 : ByteArray) : ∃ k, reelkeeperlaw05_LongSize.f k a0 a1 a2 a3 = some true := ⟨0, rfl⟩
theorem rdR_head (kind : Int) (s : ByteArray) : rdR (longL kind s) 0 = (headPut (longHd kind s)).1 := rfl
theorem ahead_alone {s : ByteArray} (h : s.size ≤ 400) : (aheadB s ⟨#[]⟩).length ≤ 2 := by
  unfold aheadB
  have e : (needsB s ⟨#[]⟩).2 = false := rfl
  rw [e, if_neg (by decide), List.nil_append]
  by_cases c : (needsB s ⟨#[]⟩).1 = true
  · rw [if_pos c]
    cases c2 : (longB 76 s).2 with
    | true =>
      obtain ⟨_, ht, hl⟩ := longB_yes c2
      rw [hl, longL_two (textB_size ht).2]
      decide
    | false =>
      unfold longB at c2 ⊢
      by_cases c3 : longOk 76 (textB s) = true
      · rw [if_pos c3] at c2; cases c2
      · rw [if_neg c3]; decide
  · rw [if_neg c]; decide
set_option maxHeartbeats 3200000 in
set_option maxRecDepth 100000 in
theorem LongSize_walk (a0 : Int) (a1 : ByteArray) (a2 : Int) (a3 : ByteArray) (w : World) (h0 : 0 ≤ a0 ∧ a0 ≤ 255) (h2 : 0 ≤ a2 ∧ a2 ≤ 255) (s1 : a1.size ≤ 400) (s3 : a3.size ≤ 400) :
    Calls Try.prog 10 #[.int .u8 a0, .string a1, .int .u8 a2, .string a3] w fun e w' => e = .returned (.bool true) ∧ Below w.heap.size w w' := by
  have hup := fun W => awake5.at_ W
  have hs1 : decide ((400 : Int) < (a1.size : Int)) = false := decide_eq_false (by omega)
  have hs3 : decide ((400 : Int) < (a3.size : Int)) = false := decide_eq_false (by omega)
  have hp1 := longPut_f h0 (s := a1) (by omega)
  have hp2 := longPut_f h2 (s := a3) (by omega)
  have hy1 := longB_yes (kind := a0) (s := a1)
  have hy2 := longB_yes (kind := a2) (s := a3)
  have ha := ahead_f a1 ⟨#[]⟩ 0 0 0 0 0 ⟨#[]⟩ (by omega) (Nat.zero_le _)
  have hal := ahead_alone s1
  generalize aheadB a1 ⟨#[]⟩ = la at ha hal
  have hahead := fun W => rows_alone (long_Ahead.calls a1 ⟨#[]⟩ 0 0 0 0 0 ⟨#[]⟩ la W ha)
  have hal2 : (la.length : Int) ≤ 2 := by omega
  generalize longB a0 a1 = x1 at hp1 hy1
  generalize longB a2 a3 = x2 at hp2 hy2
  obtain ⟨l1, i1⟩ := x1
  obtain ⟨l2, i2⟩ := x2
  have hput1 := fun W => rows_flag (long_Put.calls a0 a1 l1 i1 W hp1)
  have hput2 := fun W => rows_flag (long_Put.calls a2 a3 l2 i2 W hp2)
  have HB0 := Aside0.mk (Below.refl w.heap.size w)
  clear ha hp1 hp2
  cases i1 with
  | false =>
    clear hy1 hy2 hahead hal hal2 h0 h2 s1 s3
    cases i2
    all_goals
      go_enter Try.func10, Try.ntmps10
      go_wp2_with (first | (go_at_call 30; refine (hup _).mono ?_; rintro e w1 ⟨rfl, hb⟩; have HB1 := Aside0.mk (below_step (by repeat (first | exact HB0.out | apply below_alloc | apply pw_below_drewN | apply below_drew1)) hb); clear hb) | (have _t := HC1; go_at_call 31; (with_reducible refine (hput2 _).mono ?_); rintro e w3 ⟨A2, c2, rfl, HC2, HL2, hb⟩; have HB3 := Aside0.mk (below_step HB2.out hb); have HC1 := Aside0.mk (Kd.C_below HC1.out hb); clear hb) | (go_at_call 31; (with_reducible refine (hput1 _).mono ?_); rintro e w2 ⟨A1, c1, rfl, HC1, HL1, hb⟩; have HB2 := Aside0.mk (below_step HB1.out hb); clear hb))
      go_ret
      exact ⟨rfl, HB3.out⟩
  | true =>
  cases i2 with
  | false =>
    clear hy1 hy2 hahead hal hal2 h0 h2 s1 s3
    go_enter Try.func10, Try.ntmps10
    go_wp2_with (first | (go_at_call 30; refine (hup _).mono ?_; rintro e w1 ⟨rfl, hb⟩; have HB1 := Aside0.mk (below_step (by repeat (first | exact HB0.out | apply below_alloc | apply pw_below_drewN | apply below_drew1)) hb); clear hb) | (have _t := HC1; go_at_call 31; (with_reducible refine (hput2 _).mono ?_); rintro e w3 ⟨A2, c2, rfl, HC2, HL2, hb⟩; have HB3 := Aside0.mk (below_step HB2.out hb); have HC1 := Aside0.mk (Kd.C_below HC1.out hb); clear hb) | (go_at_call 31; (with_reducible refine (hput1 _).mono ?_); rintro e w2 ⟨A1, c1, rfl, HC1, HL1, hb⟩; have HB2 := Aside0.mk (below_step HB1.out hb); clear hb))
    go_ret
    exact ⟨rfl, HB3.out⟩
  | true =>
    obtain ⟨k1, t1, e1⟩ := hy1 rfl
    obtain ⟨k2, t2, e2⟩ := hy2 rfl
    obtain ⟨rfl, _⟩ := Prod.mk.inj e1
    obtain ⟨rfl, _⟩ := Prod.mk.inj e2
    have n1 := longL_two (kind := a0) (textB_size t1).2
    have n2 := longL_two (kind := a2) (textB_size t2).2
    have hx : rdR (longL a0 a1) 0 = hdBlk (longHd a0 a1) := longHead k1 (by omega)
    have hy : rdR (longL a2 a3) 0 = hdBlk (longHd a2 a3) := longHead k2 (by omega)
    have hb1 : byteOk (rdR (longL a0 a1) 0) := by rw [hx]; exact byteOk_hdBlk h0
    have hb2 : byteOk (rdR (longL a2 a3) 0) := by rw [hy]; exact byteOk_hdBlk h2
    have heq : decide (rdR (longL a0 a1) 0 = rdR (longL a2 a3) 0) = decide (a0 = a2 ∧ a1.size = a3.size) := by
      rw [hx, hy]
      exact decide_eq_decide.2 (longHead_eq k1 k2 (by omega) (by omega))
    have hstr := str_beq hb1 hb2
    rw [heq] at hstr
    generalize longL a0 a1 = l1 at *
    generalize longL a2 a3 = l2 at *
    rw [n1] at hput1
    rw [n2] at hput2
    have N1 := Aside0.mk n1
    have N2 := Aside0.mk n2
    have HST := Aside0.mk hstr
    clear hy1 hy2 e1 e2 k1 k2 t1 t2 n1 n2 hx hy hb1 hb2 heq hal h0 h2 s1 s3 hstr
    go_enter Try.func10, Try.ntmps10
    go_upto_region 8 with (first | (go_at_call 30; refine (hup _).mono ?_; rintro e w1 ⟨rfl, hb⟩; have HB1 := Aside0.mk (below_step (by repeat (first | exact HB0.out | apply below_alloc | apply pw_below_drewN | apply below_drew1)) hb); clear hb) | (have _t := HC1; go_at_call 31; (with_reducible refine (hput2 _).mono ?_); rintro e w3 ⟨A2, c2, rfl, HC2, HL2, hb⟩; have HB3 := Aside0.mk (below_step HB2.out hb); have HC1 := Aside0.mk (Kd.C_below HC1.out hb); clear hb) | (go_at_call 31; (with_reducible refine (hput1 _).mono ?_); rintro e w2 ⟨A1, c1, rfl, HC1, HL1, hb⟩; have HB2 := Aside0.mk (below_step HB1.out hb); clear hb))
    obtain ⟨ad1, B1, d1, q1, hx1, hl1, hi1⟩ := at_row HC1.out 0 (by decide)
    obtain ⟨ad2, B2, d2, q2, hx2, hl2, hi2⟩ := at_row HC2.out 0 (by decide)
    cases q1
    cases q2
    rw [show ad1.add 0 = ad1 by cases ad1; rfl] at hx1
    rw [show ad2.add 0 = ad2 by cases ad2; rfl] at hx2
    have hst := HST.out
    generalize rdR l1 0 = x at hx1 hl1 hi1 hst
    generalize rdR l2 0 = y at hx2 hl2 hi2 hst
    have HI1 := Aside0.mk hi1
    have HI2 := Aside0.mk hi2
    have HL1 := Aside0.mk hl1
    have HL2 := Aside0.mk hl2
    clear hi1 hi2 hl1 hl2 hput1 hput2 hup HC1 HC2 HST N1 N2
    by_cases ca : a0 = a2
    · subst ca
      by_cases cs : a1.size = a3.size
      · have f1 : ((strOfNums x).toList == (strOfNums y).toList) = true := by rw [hst]; exact decide_eq_true ⟨rfl, cs⟩
        have f2 : ((a1.size : Int) == (a3.size : Int)) = true := beq_iff_eq.2 (by omega)
        clear hst cs
        go_region_held3 (fun w' => w'.cell? ad1 = some (.slice B1 x.length d1) ∧ w'.cell? ad2 = some (.slice B2 y.length d2) ∧ (convert 50 9 (.slice B1 x.length d1)).run Try.prog w' = .ok (.string (strOfNums x)) w' ∧ (convert 50 9 (.slice B2 y.length d2)).run Try.prog w' = .ok (.string (strOfNums y)) w') ((first | exact ⟨hx1, hx2, Kd.C_string (P := Try.prog) (A := B1) (c := d1) Try.underlying50 Try.underlying5 Try.underlying9 (Kd.C_drewN HI1.out 1), Kd.C_string (P := Try.prog) (A := B2) (c := d2) Try.underlying50 Try.underlying5 Try.underlying9 (Kd.C_drewN HI2.out 1)⟩ | exact ⟨hx1n, hx2n, Kd.C_string (P := Try.prog) (A := B1) (c := d1) Try.underlying50 Try.underlying5 Try.underlying9 HI1n.out, Kd.C_string (P := Try.prog) (A := B2) (c := d2) Try.underlying50 Try.underlying5 Try.underlying9 HI2n.out⟩)) (first | (go_at_call 38; refine (hahead _).mono ?_; rintro e w4 ⟨A4, c4, rfl, HC4, HL4, hb⟩; have HB4 := Aside0.mk (below_step (by repeat (first | exact HB3.out | apply pw_below_drewN | apply below_drew1)) hb); have hx1n := pw_cell_below hb (show w3.drew.cell? _ = _ from hx1); have hx2n := pw_cell_below hb (show w3.drew.cell? _ = _ from hx2); have HI1n := Aside0.mk (Kd.C_below (Kd.C_drewN HI1.out 1) hb); have HI2n := Aside0.mk (Kd.C_below (Kd.C_drewN HI2.out 1) hb); clear hb))
        go_wp2_with (fail)
        go_ret
        exact ⟨rfl, (by repeat (first | exact HB4.out | apply pw_below_drewN | apply below_drew1))⟩
      · have f1 : ((strOfNums x).toList == (strOfNums y).toList) = false := by rw [hst]; exact decide_eq_false (fun h => cs h.2)
        have f2 : ((a1.size : Int) == (a3.size : Int)) = false := beq_false_of_ne (by omega)
        clear hst cs
        go_region_held3 (fun w' => w'.cell? ad1 = some (.slice B1 x.length d1) ∧ w'.cell? ad2 = some (.slice B2 y.length d2) ∧ (convert 50 9 (.slice B1 x.length d1)).run Try.prog w' = .ok (.string (strOfNums x)) w' ∧ (convert 50 9 (.slice B2 y.length d2)).run Try.prog w' = .ok (.string (strOfNums y)) w') ((first | exact ⟨hx1, hx2, Kd.C_string (P := Try.prog) (A := B1) (c := d1) Try.underlying50 Try.underlying5 Try.underlying9 (Kd.C_drewN HI1.out 1), Kd.C_string (P := Try.prog) (A := B2) (c := d2) Try.underlying50 Try.underlying5 Try.underlying9 (Kd.C_drewN HI2.out 1)⟩ | exact ⟨hx1n, hx2n, Kd.C_string (P := Try.prog) (A := B1) (c := d1) Try.underlying50 Try.underlying5 Try.underlying9 HI1n.out, Kd.C_string (P := Try.prog) (A := B2) (c := d2) Try.underlying50 Try.underlying5 Try.underlying9 HI2n.out⟩)) (first | (go_at_call 38; refine (hahead _).mono ?_; rintro e w4 ⟨A4, c4, rfl, HC4, HL4, hb⟩; have HB4 := Aside0.mk (below_step (by repeat (first | exact HB3.out | apply pw_below_drewN | apply below_drew1)) hb); have hx1n := pw_cell_below hb (show w3.drew.cell? _ = _ from hx1); have hx2n := pw_cell_below hb (show w3.drew.cell? _ = _ from hx2); have HI1n := Aside0.mk (Kd.C_below (Kd.C_drewN HI1.out 1) hb); have HI2n := Aside0.mk (Kd.C_below (Kd.C_drewN HI2.out 1) hb); clear hb))
        go_wp2_with (fail)
        go_ret
        exact ⟨rfl, (by repeat (first | exact HB4.out | apply pw_below_drewN | apply below_drew1))⟩
    · have f1 : ((strOfNums x).toList == (strOfNums y).toList) = false := by rw [hst]; exact decide_eq_false (fun h => ca h.1)
      have f2 : (a0 == a2) = false := beq_false_of_ne ca
      have f3 : decide (a0 = a2) = false := decide_eq_false ca
      clear hst ca
      refine start_ (n := 28) (S := fun w' => w'.cell? ad1 = some (.slice B1 x.length d1) ∧ w'.cell? ad2 = some (.slice B2 y.length d2) ∧ (convert 50 9 (.slice B1 x.length d1)).run Try.prog w' = .ok (.string (strOfNums x)) w' ∧ (convert 50 9 (.slice B2 y.length d2)).run Try.prog w' = .ok (.string (strOfNums y)) w') (ds := []) #[false, false, false, false, false, false, false, false, false, false, false, false, false, false, false, false, false, false, false, false, false, false, false, false, false, false, false, false] (by kernel_rfl) rfl rfl ⟨hx1, hx2, Kd.C_string (P := Try.prog) (A := B1) (c := d1) Try.underlying50 Try.underlying5 Try.underlying9 (Kd.C_drewN HI1.out 1), Kd.C_string (P := Try.prog) (A := B2) (c := d2) Try.underlying50 Try.underlying5 Try.underlying9 (Kd.C_drewN HI2.out 1)⟩ (fun hHeld => ?_)
      skip
      refine pure_ (i := 0) (N := some 62) (v := ?_) (a' := ?_) #[true, false, false, false, false, false, false, false, false, false, false, false, false, false, false, false, false, false, false, false, false, false, false, false, false, false, false, false] rfl rfl (by kernel_rfl) (fun _ _ _ h => h) (Or.inl ⟨by rfl, ?_⟩) ?_ ?_
      rotate_left
      · intro w'
        go_simp
        with_reducible rfl
      rotate_left
      · simp only [Act.put, List.setIfInBounds_toArray, List.set_cons_zero, List.set_cons_succ, i64_w, i32_w]
        rfl
      refine pure_ (i := 1) (N := some 63) (v := ?_) (a' := ?_) #[true, true, false, false, false, false, false, false, false, false, false, false, false, false, false, false, false, false, false, false, false, false, false, false, false, false, false, false] rfl rfl (by kernel_rfl) (fun _ _ _ h => h) (Or.inl ⟨by rfl, ?_⟩) ?_ ?_
      rotate_left
      · intro w'
        go_simp
        with_reducible rfl
      rotate_left
      · simp only [Act.put, List.setIfInBounds_toArray, List.set_cons_zero, List.set_cons_succ, i64_w, i32_w]
        rfl
      refine take_ (i := 2) (N := some 64) (v := ?_) (a' := ?_) #[true, true, true, false, false, false, false, false, false, false, false, false, false, false, false, false, false, false, false, false, false, false, false, false, false, false, false, false] rfl rfl (by kernel_rfl) (fun _ _ _ h => h) (Or.inl ⟨by rfl, ?_⟩) hHeld ?_ ?_
      rotate_left
      · rintro w' ⟨s0, s1, s2, s3⟩
        go_simp
        with_reducible rfl
      rotate_left
      · simp only [Act.put, List.setIfInBounds_toArray, List.set_cons_zero, List.set_cons_succ, i64_w, i32_w]
        rfl
      refine take_ (i := 3) (N := some 65) (v := ?_) (a' := ?_) #[true, true, true, true, false, false, false, false, false, false, false, false, false, false, false, false, false, false, false, false, false, false, false, false, false, false, false, false] rfl rfl (by kernel_rfl) (fun _ _ _ h => h) (Or.inl ⟨by rfl, ?_⟩) hHeld ?_ ?_
      rotate_left
      · rintro w' ⟨s0, s1, s2, s3⟩
        go_simp
        with_reducible rfl
      rotate_left
      · simp only [Act.put, List.setIfInBounds_toArray, List.set_cons_zero, List.set_cons_succ, i64_w, i32_w]
        rfl
      refine pure_ (i := 4) (N := some 66) (v := ?_) (a' := ?_) #[true, true, true, true, true, false, false, false, false, false, false, false, false, false, false, false, false, false, false, false, false, false, false, false, false, false, false, false] rfl rfl (by kernel_rfl) (fun _ _ _ h => h) (Or.inl ⟨by rfl, ?_⟩) ?_ ?_
      rotate_left
      · intro w'
        go_simp
        with_reducible rfl
      rotate_left
      · simp only [Act.put, List.setIfInBounds_toArray, List.set_cons_zero, List.set_cons_succ, i64_w, i32_w]
        rfl
      refine pure_ (i := 5) (N := some 67) (v := ?_) (a' := ?_) #[true, true, true, true, true, true, false, false, false, false, false, false, false, false, false, false, false, false, false, false, false, false, false, false, false, false, false, false] rfl rfl (by kernel_rfl) (fun _ _ _ h => h) (Or.inl ⟨by rfl, ?_⟩) ?_ ?_
      rotate_left
      · intro w'
        go_simp
        with_reducible rfl
      rotate_left
      · simp only [Act.put, List.setIfInBounds_toArray, List.set_cons_zero, List.set_cons_succ, i64_w, i32_w]
        rfl
      refine take_ (i := 6) (N := some 68) (v := ?_) (a' := ?_) #[true, true, true, true, true, true, true, false, false, false, false, false, false, false, false, false, false, false, false, false, false, false, false, false, false, false, false, false] rfl rfl (by kernel_rfl) (fun _ _ _ h => h) (Or.inl ⟨by rfl, ?_⟩) hHeld ?_ ?_
      rotate_left
      · rintro w' ⟨s0, s1, s2, s3⟩
        go_simp
        with_reducible rfl
      rotate_left
      · simp only [Act.put, List.setIfInBounds_toArray, List.set_cons_zero, List.set_cons_succ, i64_w, i32_w]
        rfl
      refine take_ (i := 7) (N := some 69) (v := ?_) (a' := ?_) #[true, true, true, true, true, true, true, true, false, false, false, false, false, false, false, false, false, false, false, false, false, false, false, false, false, false, false, false] rfl rfl (by kernel_rfl) (fun _ _ _ h => h) (Or.inl ⟨by rfl, ?_⟩) hHeld ?_ ?_
      rotate_left
      · rintro w' ⟨s0, s1, s2, s3⟩
        go_simp
        with_reducible rfl
      rotate_left
      · simp only [Act.put, List.setIfInBounds_toArray, List.set_cons_zero, List.set_cons_succ, i64_w, i32_w]
        rfl
      refine pure_ (i := 8) (N := some 70) (v := ?_) (a' := ?_) #[true, true, true, true, true, true, true, true, true, false, false, false, false, false, false, false, false, false, false, false, false, false, false, false, false, false, false, false] rfl rfl (by kernel_rfl) (fun _ _ _ h => h) (Or.inl ⟨by rfl, ?_⟩) ?_ ?_
      rotate_left
      · intro w'
        go_simp
        with_reducible rfl
      rotate_left
      · simp only [Act.put, List.setIfInBounds_toArray, List.set_cons_zero, List.set_cons_succ, i64_w, i32_w]
        rfl
      refine pure_ (i := 9) (N := some 71) (v := ?_) (a' := ?_) #[true, true, true, true, true, true, true, true, true, true, false, false, false, false, false, false, false, false, false, false, false, false, false, false, false, false, false, false] rfl rfl (by kernel_rfl) (fun _ _ _ h => h) (Or.inl ⟨by rfl, ?_⟩) ?_ ?_
      rotate_left
      · intro w'
        go_simp
        with_reducible rfl
      rotate_left
      · simp only [Act.put, List.setIfInBounds_toArray, List.set_cons_zero, List.set_cons_succ, i64_w, i32_w]
        rfl
      refine pure_ (i := 10) (N := some 72) (v := ?_) (a' := ?_) #[true, true, true, true, true, true, true, true, true, true, true, false, false, false, false, false, false, false, false, false, false, false, false, false, false, false, false, false] rfl rfl (by kernel_rfl) (fun _ _ _ h => h) (Or.inl ⟨by rfl, ?_⟩) ?_ ?_
      rotate_left
      · intro w'
        go_simp
        with_reducible rfl
      rotate_left
      · simp only [Act.put, List.setIfInBounds_toArray, List.set_cons_zero, List.set_cons_succ, i64_w, i32_w]
        rfl
      refine pure_ (i := 11) (N := some 73) (v := ?_) (a' := ?_) #[true, true, true, true, true, true, true, true, true, true, true, true, false, false, false, false, false, false, false, false, false, false, false, false, false, false, false, false] rfl rfl (by kernel_rfl) (fun _ _ _ h => h) (Or.inl ⟨by rfl, ?_⟩) ?_ ?_
      rotate_left
      · intro w'
        go_simp
        with_reducible rfl
      rotate_left
      · simp only [Act.put, List.setIfInBounds_toArray, List.set_cons_zero, List.set_cons_succ, i64_w, i32_w]
        rfl
      refine pure_ (i := 12) (N := some 74) (v := ?_) (a' := ?_) #[true, true, true, true, true, true, true, true, true, true, true, true, true, false, false, false, false, false, false, false, false, false, false, false, false, false, false, false] rfl rfl (by kernel_rfl) (fun _ _ _ h => h) (Or.inl ⟨by rfl, ?_⟩) ?_ ?_
      rotate_left
      · intro w'
        go_simp
        with_reducible rfl
      rotate_left
      · simp only [Act.put, List.setIfInBounds_toArray, List.set_cons_zero, List.set_cons_succ, i64_w, i32_w]
        rfl
      refine pure_ (i := 13) (N := some 75) (v := undef) (a' := ?_) #[true, true, true, true, true, true, true, true, true, true, true, true, true, true, false, false, false, false, false, false, false, false, false, false, false, false, false, false] rfl rfl (by kernel_rfl) (fun _ _ _ h => h) (Or.inr ⟨by rfl, rfl⟩) ?_ ?_
      rotate_left
      · simp only [Act.put, List.setIfInBounds_toArray, List.set_cons_zero, List.set_cons_succ, i64_w, i32_w]
        rfl
      refine pure_ (i := 14) (N := some 76) (v := undef) (a' := ?_) #[true, true, true, true, true, true, true, true, true, true, true, true, true, true, true, false, false, false, false, false, false, false, false, false, false, false, false, false] rfl rfl (by kernel_rfl) (fun _ _ _ h => h) (Or.inr ⟨by rfl, rfl⟩) ?_ ?_
      rotate_left
      · simp only [Act.put, List.setIfInBounds_toArray, List.set_cons_zero, List.set_cons_succ, i64_w, i32_w]
        rfl
      refine pure_ (i := 15) (N := some 77) (v := undef) (a' := ?_) #[true, true, true, true, true, true, true, true, true, true, true, true, true, true, true, true, false, false, false, false, false, false, false, false, false, false, false, false] rfl rfl (by kernel_rfl) (fun _ _ _ h => h) (Or.inr ⟨by rfl, rfl⟩) ?_ ?_
      rotate_left
      · simp only [Act.put, List.setIfInBounds_toArray, List.set_cons_zero, List.set_cons_succ, i64_w, i32_w]
        rfl
      refine pure_ (i := 16) (N := some 78) (v := undef) (a' := ?_) #[true, true, true, true, true, true, true, true, true, true, true, true, true, true, true, true, true, false, false, false, false, false, false, false, false, false, false, false] rfl rfl (by kernel_rfl) (fun _ _ _ h => h) (Or.inr ⟨by rfl, rfl⟩) ?_ ?_
      rotate_left
      · simp only [Act.put, List.setIfInBounds_toArray, List.set_cons_zero, List.set_cons_succ, i64_w, i32_w]
        rfl
      refine pure_ (i := 17) (N := some 79) (v := undef) (a' := ?_) #[true, true, true, true, true, true, true, true, true, true, true, true, true, true, true, true, true, true, false, false, false, false, false, false, false, false, false, false] rfl rfl (by kernel_rfl) (fun _ _ _ h => h) (Or.inr ⟨by rfl, rfl⟩) ?_ ?_
      rotate_left
      · simp only [Act.put, List.setIfInBounds_toArray, List.set_cons_zero, List.set_cons_succ, i64_w, i32_w]
        rfl
      refine pure_ (i := 18) (N := some 80) (v := ?_) (a' := ?_) #[true, true, true, true, true, true, true, true, true, true, true, true, true, true, true, true, true, true, true, false, false, false, false, false, false, false, false, false] rfl rfl (by kernel_rfl) (fun _ _ _ h => h) (Or.inl ⟨by rfl, ?_⟩) ?_ ?_
      rotate_left
      · intro w'
        go_simp
        with_reducible rfl
      rotate_left
      · simp only [Act.put, List.setIfInBounds_toArray, List.set_cons_zero, List.set_cons_succ, i64_w, i32_w]
        rfl
      refine pure_ (i := 19) (N := some 81) (v := ?_) (a' := ?_) #[true, true, true, true, true, true, true, true, true, true, true, true, true, true, true, true, true, true, true, true, false, false, false, false, false, false, false, false] rfl rfl (by kernel_rfl) (fun _ _ _ h => h) (Or.inl ⟨by rfl, ?_⟩) ?_ ?_
      rotate_left
      · intro w'
        go_simp
        with_reducible rfl
      rotate_left
      · simp only [Act.put, List.setIfInBounds_toArray, List.set_cons_zero, List.set_cons_succ, i64_w, i32_w]
        rfl
      refine pure_ (i := 20) (N := some 82) (v := ?_) (a' := ?_) #[true, true, true, true, true, true, true, true, true, true, true, true, true, true, true, true, true, true, true, true, true, false, false, false, false, false, false, false] rfl rfl (by kernel_rfl) (fun _ _ _ h => h) (Or.inl ⟨by rfl, ?_⟩) ?_ ?_
      rotate_left
      · intro w'
        go_simp
        with_reducible rfl
      rotate_left
      · simp only [Act.put, List.setIfInBounds_toArray, List.set_cons_zero, List.set_cons_succ, i64_w, i32_w]
        rfl
      refine pure_ (i := 21) (N := some 83) (v := ?_) (a' := ?_) #[true, true, true, true, true, true, true, true, true, true, true, true, true, true, true, true, true, true, true, true, true, true, false, false, false, false, false, false] rfl rfl (by kernel_rfl) (fun _ _ _ h => h) (Or.inl ⟨by rfl, ?_⟩) ?_ ?_
      rotate_left
      · intro w'
        go_simp
        with_reducible rfl
      rotate_left
      · simp only [Act.put, List.setIfInBounds_toArray, List.set_cons_zero, List.set_cons_succ, i64_w, i32_w]
        rfl
      refine pure_ (i := 22) (N := some 84) (v := ?_) (a' := ?_) #[true, true, true, true, true, true, true, true, true, true, true, true, true, true, true, true, true, true, true, true, true, true, true, false, false, false, false, false] rfl rfl (by kernel_rfl) (fun _ _ _ h => h) (Or.inl ⟨by rfl, ?_⟩) ?_ ?_
      rotate_left
      · intro w'
        go_simp
        with_reducible rfl
      rotate_left
      · simp only [Act.put, List.setIfInBounds_toArray, List.set_cons_zero, List.set_cons_succ, i64_w, i32_w]
        rfl
      refine one_ (i := 23) (N := some 85) #[true, true, true, true, true, true, true, true, true, true, true, true, true, true, true, true, true, true, true, true, true, true, true, true, false, false, false, false] rfl rfl (by kernel_rfl) (by decide) (fun K hK => ?_)
      refine goes_ Try.func38 (by kernel_rfl) rfl #[.agg #[.string a1, .string ⟨#[]⟩, .int .u8 0, .int .i64 0, .int .i64 0, .int .i64 0, .int .i64 0, .string ⟨#[]⟩]] (by rfl) rfl rfl (by (try simp only [List.map_toArray, List.map_cons, List.map_nil]); first | done | rfl | (simp only [List.length_drop, List.length_take]; rfl)) ?_
      refine (hahead _).mono ?_
      rintro e w4 ⟨A4, c4, rfl, HC4, HL4, hb⟩
      have HB4 := Aside0.mk (below_step (by repeat (first | exact HB3.out | apply pw_below_drewN | apply below_drew1)) hb)
      have hx1n := pw_cell_below hb (show w3.drew.cell? _ = _ from hx1)
      have hx2n := pw_cell_below hb (show w3.drew.cell? _ = _ from hx2)
      have HI1n := Aside0.mk (Kd.C_below (Kd.C_drewN HI1.out 1) hb)
      have HI2n := Aside0.mk (Kd.C_below (Kd.C_drewN HI2.out 1) hb)
      clear hb
      refine ⟨_, rfl, ?_⟩
      refine hK.out _ _ ⟨hx1n, hx2n, Kd.C_string (P := Try.prog) (A := B1) (c := d1) Try.underlying50 Try.underlying5 Try.underlying9 HI1n.out, Kd.C_string (P := Try.prog) (A := B2) (c := d2) Try.underlying50 Try.underlying5 Try.underlying9 HI2n.out⟩ (fun hHeld => ?_)
      clear hK K
      refine norm_ (a' := ?_) ?_ ?_
      rotate_left
      · show Act.put _ (some 85) _ = _
        simp only [Act.put, List.setIfInBounds_toArray, List.set_cons_zero, List.set_cons_succ, i64_w, i32_w]
        rfl
      refine pure_ (i := 24) (N := some 86) (v := ?_) (a' := ?_) #[true, true, true, true, true, true, true, true, true, true, true, true, true, true, true, true, true, true, true, true, true, true, true, true, true, false, false, false] rfl rfl (by kernel_rfl) (fun _ _ _ h => h) (Or.inl ⟨by rfl, ?_⟩) ?_ ?_
      rotate_left
      · intro w'
        go_simp
        with_reducible rfl
      rotate_left
      · simp only [Act.put, List.setIfInBounds_toArray, List.set_cons_zero, List.set_cons_succ, i64_w, i32_w]
        rfl
      refine pure_ (i := 25) (N := some 87) (v := ?_) (a' := ?_) #[true, true, true, true, true, true, true, true, true, true, true, true, true, true, true, true, true, true, true, true, true, true, true, true, true, true, false, false] rfl rfl (by kernel_rfl) (fun _ _ _ h => h) (Or.inl ⟨by rfl, ?_⟩) ?_ ?_
      rotate_left
      · intro w'
        go_simp
        with_reducible rfl
      rotate_left
      · simp only [Act.put, List.setIfInBounds_toArray, List.set_cons_zero, List.set_cons_succ, i64_w, i32_w]
        rfl
      refine pure_ (i := 26) (N := some 88) (v := ?_) (a' := ?_) #[true, true, true, true, true, true, true, true, true, true, true, true, true, true, true, true, true, true, true, true, true, true, true, true, true, true, true, false] rfl rfl (by kernel_rfl) (fun _ _ _ h => h) (Or.inl ⟨by rfl, ?_⟩) ?_ ?_
      rotate_left
      · intro w'
        go_simp
        with_reducible rfl
      rotate_left
      · simp only [Act.put, List.setIfInBounds_toArray, List.set_cons_zero, List.set_cons_succ, i64_w, i32_w]
        rfl
      refine pure_ (i := 27) (N := some 8) (v := ?_) (a' := ?_) #[true, true, true, true, true, true, true, true, true, true, true, true, true, true, true, true, true, true, true, true, true, true, true, true, true, true, true, true] rfl rfl (by kernel_rfl) (fun _ _ _ h => h) (Or.inl ⟨by rfl, ?_⟩) ?_ ?_
      rotate_left
      · intro w'
        go_simp
        with_reducible rfl
      rotate_left
      · simp only [Act.put, List.setIfInBounds_toArray, List.set_cons_zero, List.set_cons_succ, i64_w, i32_w]
        rfl
      refine done_ (by kernel_rfl) ?_
      go_wp2_with (fail)
      go_ret
      exact ⟨rfl, (by repeat (first | exact HB4.out | apply pw_below_drewN | apply below_drew1))⟩
theorem reelkeeperlaw05_LongSize.calls (k : Nat) (a0 : Int) (a1 : ByteArray) (a2 : Int) (a3 : ByteArray) (r : Bool) (w : World) (h0 : 0 ≤ a0 ∧ a0 ≤ 255) (h2 : 0 ≤ a2 ∧ a2 ≤ 255) (h : reelkeeperlaw05_LongSize.f k a0 a1 a2 a3 = some r) :
    Calls Try.prog 10 #[.int .u8 a0, .string a1, .int .u8 a2, .string a3] w fun e w' => e = .returned (.bool r) ∧ Below w.heap.size w w' := by
  obtain rfl : true = r := Option.some.inj h
  clear h
  by_cases s1 : a1.size ≤ 400
  case neg =>
    have s1 : (400 : Int) < (a1.size : Int) := by omega
    have hup := fun W => awake5.at_ W
    have HB0 := Aside0.mk (Below.refl w.heap.size w)
    clear h0 h2
    go_enter Try.func10, Try.ntmps10
    go_wp2_with (first | (go_at_call 30; refine (hup _).mono ?_; rintro e w1 ⟨rfl, hb⟩; have HB1 := Aside0.mk (below_step (by repeat (first | exact HB0.out | apply below_alloc | apply pw_below_drewN | apply below_drew1)) hb); clear hb))
    go_ret
    exact ⟨rfl, HB1.out⟩
  by_cases s3 : a3.size ≤ 400
  case neg =>
    have s1 : decide ((400 : Int) < (a1.size : Int)) = false := decide_eq_false (by omega)
    have s3 : (400 : Int) < (a3.size : Int) := by omega
    have hup := fun W => awake5.at_ W
    have HB0 := Aside0.mk (Below.refl w.heap.size w)
    clear h0 h2
    go_enter Try.func10, Try.ntmps10
    go_wp2_with (first | (go_at_call 30; refine (hup _).mono ?_; rintro e w1 ⟨rfl, hb⟩; have HB1 := Aside0.mk (below_step (by repeat (first | exact HB0.out | apply below_alloc | apply pw_below_drewN | apply below_drew1)) hb); clear hb))
    go_ret
    exact ⟨rfl, HB1.out⟩
  exact LongSize_walk a0 a1 a2 a3 w h0 h2 s1 s3

end Go.Proofs.Ytddjnicmpgbcgaa.X
