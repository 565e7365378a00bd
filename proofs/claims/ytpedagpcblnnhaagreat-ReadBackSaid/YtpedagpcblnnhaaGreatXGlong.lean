import Derived.Test.YtpedagpcblnnhaaGreatXK
import Derived.Test.YtpedagpcblnnhaaGreatXGblock
import Derived.Test.YtpedagpcblnnhaaGreatXGhead
import Derived.Test.YtpedagpcblnnhaaGreatXGpath
import Derived.Test.YtpedagpcblnnhaaGreatXGslices
import Derived.Test.YtpedagpcblnnhaaGreatXGbytealg
import Derived.Test.YtpedagpcblnnhaaGreatYAll
import Derived.Deep.DeepCutAuto
import Derived.Deep.RegionHeld3
import Derived.Laws.EntriesVeiled
import Derived.WalkSpells
namespace Go.Proofs.YtpedagpcblnnhaaGreat.X
open Go.RowKit Go.Proofs.YtpedagpcblnnhaaGreatW.PrintWords Go.Proofs.YtpedagpcblnnhaaGreatW.PrintLast Go.Proofs.YtpedagpcblnnhaaGreatW.PrintMore
attribute [local go_sem] max2_int min2_int max_two min_two
set_option linter.unusedVariables false
set_option linter.unusedSimpArgs false
section
def long_Text.f (a0 : ByteArray) : Option (Bool) := if a0.toList = ([] : List UInt8) then (some false) else (if (a0.size : Int) ≤ 300 then ((strings_IndexByte.f a0 0).bind fun t101 => (some (decide (t101 < 0)))) else (some false))
set_option maxHeartbeats 8000000 in
set_option maxRecDepth 100000 in
theorem long_Text.calls (a0 : ByteArray) (r : Bool) (w : World) (h : long_Text.f a0 = some r) :
    Calls Tryz.prog 63 #[.string a0] w fun e w' => e = .returned (.bool r) ∧ Drawn0 w w' := by
  have H : (if a0.toList = ([] : List UInt8) then (some false) else (if (a0.size : Int) ≤ 300 then ((strings_IndexByte.f a0 0).bind fun t101 => (some (decide (t101 < 0)))) else (some false))) = some r := h
  clear h
  by_cases c2 : a0.toList = ([] : List UInt8)
  · rw [if_pos c2] at H
    have c2b0 : (a0.toList == ([] : List UInt8)) = true := beq_iff_eq.mpr c2
    have c2b1 : (a0.toList != ([] : List UInt8)) = false := bne_eq_false_iff_eq.mpr c2
    clear c2
    obtain rfl := Option.some.inj H
    go_enter Tryz.func63, Tryz.ntmps63
    go_wp2
    go_ret
    exact ⟨by first | rfl | (simp; done) | (simp [*]; done), by repeat (first | exact Drawn0.refl _ | apply Drawn0.step)⟩
  · rw [if_neg c2] at H
    have c2b0 : (a0.toList == ([] : List UInt8)) = false := beq_eq_false_iff_ne.mpr c2
    have c2b1 : (a0.toList != ([] : List UInt8)) = true := bne_iff_ne.mpr c2
    by_cases c3 : (a0.size : Int) ≤ 300
    · rw [if_pos c3] at H
      have c3b0 : decide ((a0.size : Int) ≤ 300) = true := decide_eq_true c3
      have c3b1 : decide (a0.size ≤ 300) = true := decide_eq_true (by omega)
      clear c3
      replace H := Option.bind_eq_some_iff.mp H
      obtain ⟨t101, A40, H⟩ := H
      replace H : (some (decide (t101 < 0))) = some r := H
      have A4 := Aside0.mk A40
      clear A40
      obtain rfl := Option.some.inj H
      go_enter Tryz.func63, Tryz.ntmps63
      go_wp2_with (first | (go_at_call 77; (with_reducible refine (strings_IndexByte.calls a0 0 t101 _ A4.out).mono ?_); rintro e w' ⟨rfl, ⟨nd, rfl⟩⟩))
      go_ret
      exact ⟨by first | rfl | (simp; done) | (simp [*]; done), by repeat (first | exact Drawn0.refl _ | apply Drawn0.step)⟩
    · rw [if_neg c3] at H
      have c3b0 : decide ((a0.size : Int) ≤ 300) = false := decide_eq_false c3
      have c3b1 : decide (a0.size ≤ 300) = false := decide_eq_false (by omega)
      clear c3
      obtain rfl := Option.some.inj H
      go_enter Tryz.func63, Tryz.ntmps63
      go_wp2
      go_ret
      exact ⟨by first | rfl | (simp; done) | (simp [*]; done), by repeat (first | exact Drawn0.refl _ | apply Drawn0.step)⟩
end
section
def long_Needs.f (a0_0 : ByteArray) (a0_1 : ByteArray) (a0_2 : Int) (a0_3 : Int) (a0_4 : Int) (a0_5 : Int) (a0_6 : Int) (a0_7 : ByteArray) : Option (Bool × Bool) := (path_Split.f a0_0).bind fun bt102 => (if bt102.2.2 = true then (some (false, decide ((a0_1.size : Int) > 100))) else ((path_May.f a0_0).bind fun t105 => (some (t105, decide ((a0_1.size : Int) > 100)))))
def long_Needs.T2 : Bool × List (List Nat × List Nat) := (true, [([], []), ([0], [0]), ([1], [1]), ([2], [2]), ([3, 2], [2, 3]), ([4, 2, 2], [2, 4]), ([2, 5], [2, 5]), ([], []), ([7], [7]), ([8], [8]), ([9], [9]), ([6, 5, 0, 1, 2, 3, 4, 5, 6], [6]), ([10, 11, 0, 1, 2, 3, 4, 5, 6, 7, 8, 9, 10, 11], [10])])
def long_Needs.B2 : List Nat := [0, 1, 3, 7, 15, 31, 63, 0, 128, 384, 896, 127, 4095]
theorem long_Needs.tab2 : rtab .any (opsOf Tryz.f86 2) = long_Needs.T2 := by kernel_rfl
theorem long_Needs.bits2 : waitsOk long_Needs.T2.2 long_Needs.B2 = true := by kernel_rfl
set_option maxHeartbeats 8000000 in
set_option maxRecDepth 100000 in
theorem long_Needs.calls (a0_0 : ByteArray) (a0_1 : ByteArray) (a0_2 : Int) (a0_3 : Int) (a0_4 : Int) (a0_5 : Int) (a0_6 : Int) (a0_7 : ByteArray) (r1 : Bool) (r2 : Bool) (w : World) (h : long_Needs.f a0_0 a0_1 a0_2 a0_3 a0_4 a0_5 a0_6 a0_7 = some (r1, r2)) :
    Calls Tryz.prog 86 #[.agg #[.string a0_0, .string a0_1, .int .u8 a0_2, .int .i64 a0_3, .int .i64 a0_4, .int .i64 a0_5, .int .i64 a0_6, .string a0_7]] w fun e w' => e = .returned (.tuple #[.bool r1, .bool r2]) ∧ Below w.heap.size w w' := by
  have hu41 := Tryz.underlying41
  have HB := Aside0.mk (Below.refl w.heap.size w)
  have H : ((path_Split.f a0_0).bind fun bt102 => (if bt102.2.2 = true then (some (false, decide ((a0_1.size : Int) > 100))) else ((path_May.f a0_0).bind fun t105 => (some (t105, decide ((a0_1.size : Int) > 100)))))) = some (r1, r2) := h
  clear h
  replace H := Option.bind_eq_some_iff.mp H
  obtain ⟨⟨t102, t103, t104⟩, A20, H⟩ := H
  replace H : (if t104 = true then (some (false, decide ((a0_1.size : Int) > 100))) else ((path_May.f a0_0).bind fun t105 => (some (t105, decide ((a0_1.size : Int) > 100))))) = some (r1, r2) := H
  have A2 := Aside0.mk A20
  clear A20
  by_cases c3 : t104 = true
  · subst c3
    have H1 : (some (false, decide ((a0_1.size : Int) > 100))) = some (r1, r2) := by rw [if_pos rfl] at H; exact H
    clear H
    have H := H1
    clear H1
    simp only [Option.some.injEq, Prod.mk.injEq] at H
    obtain ⟨rfl, rfl⟩ := H
    go_enter Tryz.func86, Tryz.ntmps86
    try go_wp2_with (first | ((with_reducible refine gate_dst (N := 1) rfl ?_); refine box_event ?hg (N := 1) ?hd (cs := #[.string a0_0, .string a0_1, .int .u8 a0_2, .int .i64 a0_3, .int .i64 a0_4, .int .i64 a0_5, .int .i64 a0_6, .string a0_7]) (t := 41) ?hr ?_; (case hd => rfl); (case hg => rfl); (case hr => first | (go_simp; done) | (go_simp; rfl)); intro gb101 hg w4 hbox hb; have n0_ := Aside0.mk (below_step (by repeat (first | (with_reducible first | exact HB.out | apply below_alloc | apply pw_below_drewN | apply below_drew1) | exact HB.out)) hb); have n1_ := Aside0.mk (hbox); have n2_ := Aside0.mk ((by rw [hg]; exact (below_size (by repeat (first | (with_reducible first | exact HB.out | apply below_alloc | apply pw_below_drewN | apply below_drew1) | exact HB.out))) : w.heap.size ≤ gb101)); have n3_ := Aside0.mk ((by rw [hg]; exact (below_size (by repeat (first | (with_reducible first | exact HB.out | apply below_alloc | apply pw_below_drewN | apply below_drew1) | exact HB.out))) : w.heap.size ≤ gb101)); clear HB; have HB := n0_; have BK101 := n1_; have GW101 := n2_; have GE101 := n3_; clear n0_ n1_ n2_ n3_; clear hb hbox hg; have hcz5_0 : w4.cell? ⟨gb101, 0, none⟩ = some (.string a0_0) := (blk_cell BK101.out 0).trans rfl; have hcz5_1 : w4.cell? ⟨gb101, 1, none⟩ = some (.string a0_1) := (blk_cell BK101.out 1).trans rfl; have hcz5_2 : w4.cell? ⟨gb101, 2, none⟩ = some (.int .u8 a0_2) := (blk_cell BK101.out 2).trans rfl; have hcz5_3 : w4.cell? ⟨gb101, 3, none⟩ = some (.int .i64 a0_3) := (blk_cell BK101.out 3).trans rfl; have hcz5_4 : w4.cell? ⟨gb101, 4, none⟩ = some (.int .i64 a0_4) := (blk_cell BK101.out 4).trans rfl; have hcz5_5 : w4.cell? ⟨gb101, 5, none⟩ = some (.int .i64 a0_5) := (blk_cell BK101.out 5).trans rfl; have hcz5_6 : w4.cell? ⟨gb101, 6, none⟩ = some (.int .i64 a0_6) := (blk_cell BK101.out 6).trans rfl; have hcz5_7 : w4.cell? ⟨gb101, 7, none⟩ = some (.string a0_7) := (blk_cell BK101.out 7).trans rfl; have hfz5_0 := blk_frozen BK101.out 0; have hfz5_1 := blk_frozen BK101.out 1; have hfz5_2 := blk_frozen BK101.out 2; have hfz5_3 := blk_frozen BK101.out 3; have hfz5_4 := blk_frozen BK101.out 4; have hfz5_5 := blk_frozen BK101.out 5; have hfz5_6 := blk_frozen BK101.out 6; have hfz5_7 := blk_frozen BK101.out 7) | ((with_reducible refine gate_callee (f := 114) rfl ?_); refine goesL_ (some 10) rfl rfl Tryz.func114 (by kernel_rfl) rfl #[.string a0_0] rfl (by (try simp only [List.map_toArray, List.map_cons, List.map_nil]); first | done | rfl | (simp only [List.length_drop, List.length_take]; rfl)) ?_; (with_reducible refine (path_Split.calls a0_0 t102 t103 true _ A2.out).mono ?_); rintro e w6 ⟨rfl, hb⟩; refine ⟨_, rfl, ?_⟩; have n0_ := Aside0.mk (blk_below (g := gb101) (o := .cells #[.string a0_0, .string a0_1, .int .u8 a0_2, .int .i64 a0_3, .int .i64 a0_4, .int .i64 a0_5, .int .i64 a0_6, .string a0_7] 41 (0, 0)) (by (with_reducible repeat (first | refine blk_drewN ?_ _ | refine blk_drew ?_ | refine blk_alloc ?_ _)); exact BK101.out) hb); have n1_ := Aside0.mk (below_step (by repeat (first | (with_reducible first | exact HB.out | apply below_alloc | apply pw_below_drewN | apply below_drew1 | refine below_set ?_ GE101.out) | exact HB.out)) hb); clear BK101; clear HB; have BK101 := n0_; have HB := n1_; clear n0_ n1_; (try clear hb); (try clear hb2); (try clear hk); (try clear hi)))
    have n0_ := Aside0.mk (blk_drew BK101.out)
    have n1_ := Aside0.mk (below_drew1 HB.out)
    clear BK101
    clear HB
    have BK101 := n0_
    have HB := n1_
    clear n0_ n1_
    refine start_ (n := 13) (S := fun w' => w'.cell? ⟨gb101, 0, none⟩ = some (.string a0_0) ∧ w'.cell? ⟨gb101, 1, none⟩ = some (.string a0_1) ∧ w'.cell? ⟨gb101, 2, none⟩ = some (.int .u8 a0_2) ∧ w'.cell? ⟨gb101, 3, none⟩ = some (.int .i64 a0_3) ∧ w'.cell? ⟨gb101, 4, none⟩ = some (.int .i64 a0_4) ∧ w'.cell? ⟨gb101, 5, none⟩ = some (.int .i64 a0_5) ∧ w'.cell? ⟨gb101, 6, none⟩ = some (.int .i64 a0_6) ∧ w'.cell? ⟨gb101, 7, none⟩ = some (.string a0_7)) (ds := []) #[false, false, false, false, false, false, false, false, false, false, false, false, false] (by kernel_rfl) rfl rfl ⟨(blk_cell BK101.out 0).trans rfl, (blk_cell BK101.out 1).trans rfl, (blk_cell BK101.out 2).trans rfl, (blk_cell BK101.out 3).trans rfl, (blk_cell BK101.out 4).trans rfl, (blk_cell BK101.out 5).trans rfl, (blk_cell BK101.out 6).trans rfl, (blk_cell BK101.out 7).trans rfl⟩ (fun hHeld => ?_); refine with_tabW long_Needs.tab2 long_Needs.bits2 (fun HT_ HW_ => ?_)
    generalize w6.drew = w7 at BK101 HB hHeld ⊢
    refine pure_ (i := 0) (N := some 14) (v := ?_) (a' := ?_) #[true, false, false, false, false, false, false, false, false, false, false, false, false] rfl rfl (any_of HT_.out (by kernel_rfl)) (fun _ _ _ h => h) (Or.inl ⟨by rfl, ?_⟩) ?_ ?_
    rotate_left
    · intro w'
      go_simp
      with_reducible rfl
    rotate_left
    · aput
      rfl
    refine pure_ (i := 1) (N := some 15) (v := ?_) (a' := ?_) #[true, true, false, false, false, false, false, false, false, false, false, false, false] rfl rfl (any_of HT_.out (by kernel_rfl)) (fun _ _ _ h => h) (Or.inl ⟨by rfl, ?_⟩) ?_ ?_
    rotate_left
    · intro w'
      go_simp
      with_reducible rfl
    rotate_left
    · aput
      rfl
    refine pure_ (i := 2) (N := some 16) (v := ?_) (a' := ?_) #[true, true, true, false, false, false, false, false, false, false, false, false, false] rfl rfl (any_of HT_.out (by kernel_rfl)) (fun _ _ _ h => h) (Or.inl ⟨by rfl, ?_⟩) ?_ ?_
    rotate_left
    · intro w'
      go_simp
      with_reducible rfl
    rotate_left
    · aput
      rfl
    refine pure_ (i := 3) (N := some 17) (v := undef) (a' := ?_) #[true, true, true, true, false, false, false, false, false, false, false, false, false] rfl rfl (any_of HT_.out (by kernel_rfl)) (fun _ _ _ h => h) (Or.inr ⟨by rfl, rfl⟩) ?_ ?_
    rotate_left
    · aput
      rfl
    refine pure_ (i := 4) (N := some 18) (v := undef) (a' := ?_) #[true, true, true, true, true, false, false, false, false, false, false, false, false] rfl rfl (any_of HT_.out (by kernel_rfl)) (fun _ _ _ h => h) (Or.inr ⟨by rfl, rfl⟩) ?_ ?_
    rotate_left
    · aput
      rfl
    refine pure_ (i := 5) (N := some 19) (v := undef) (a' := ?_) #[true, true, true, true, true, true, false, false, false, false, false, false, false] rfl rfl (any_of HT_.out (by kernel_rfl)) (fun _ _ _ h => h) (Or.inr ⟨by rfl, rfl⟩) ?_ ?_
    rotate_left
    · aput
      rfl
    refine pure_ (i := 6) (N := some 20) (v := ?_) (a' := ?_) #[true, true, true, true, true, true, true, false, false, false, false, false, false] rfl rfl (any_of HT_.out (by kernel_rfl)) (fun _ _ _ h => h) (Or.inl ⟨by rfl, ?_⟩) ?_ ?_
    rotate_left
    · intro w'
      go_simp
      with_reducible rfl
    rotate_left
    · aput
      rfl
    refine pure_ (i := 7) (N := some 21) (v := ?_) (a' := ?_) #[true, true, true, true, true, true, true, true, false, false, false, false, false] rfl rfl (any_of HT_.out (by kernel_rfl)) (fun _ _ _ h => h) (Or.inl ⟨by rfl, ?_⟩) ?_ ?_
    rotate_left
    · intro w'
      go_simp
      with_reducible rfl
    rotate_left
    · aput
      rfl
    refine pure_ (i := 11) (N := some 2) (v := ?_) (a' := ?_) #[true, true, true, true, true, true, true, true, false, false, false, true, false] rfl rfl (any_of HT_.out (by kernel_rfl)) (fun _ _ _ h => h) (Or.inl ⟨by rfl, ?_⟩) ?_ ?_
    rotate_left
    · intro w'
      go_simp
      with_reducible rfl
    rotate_left
    · aput
      rfl
    refine take_ (i := 8) (N := some 22) (v := ?_) (a' := ?_) #[true, true, true, true, true, true, true, true, true, false, false, true, false] rfl rfl (take_ofW HT_.out HW_.out (by kernel_rfl)) (fun _ _ _ h => h) (Or.inl ⟨by rfl, ?_⟩) hHeld ?_ ?_
    rotate_left
    · rintro w' ⟨s0, s1, s2, s3, s4, s5, s6, s7⟩
      go_simp
      with_reducible rfl
    rotate_left
    · aput
      rfl
    refine pure_ (i := 9) (N := some 23) (v := ?_) (a' := ?_) #[true, true, true, true, true, true, true, true, true, true, false, true, false] rfl rfl (any_of HT_.out (by kernel_rfl)) (fun _ _ _ h => h) (Or.inl ⟨by rfl, ?_⟩) ?_ ?_
    rotate_left
    · intro w'
      go_simp
      with_reducible rfl
    rotate_left
    · aput
      rfl
    refine pure_ (i := 10) (N := some 24) (v := ?_) (a' := ?_) #[true, true, true, true, true, true, true, true, true, true, true, true, false] rfl rfl (any_of HT_.out (by kernel_rfl)) (fun _ _ _ h => h) (Or.inl ⟨by rfl, ?_⟩) ?_ ?_
    rotate_left
    · intro w'
      go_simp
      with_reducible rfl
    rotate_left
    · aput
      rfl
    refine pure_ (i := 12) (N := some 3) (v := ?_) (a' := ?_) #[true, true, true, true, true, true, true, true, true, true, true, true, true] rfl rfl (any_of HT_.out (by kernel_rfl)) (fun _ _ _ h => h) (Or.inl ⟨by rfl, ?_⟩) ?_ ?_
    rotate_left
    · intro w'
      go_simp
      with_reducible rfl
    rotate_left
    · aput
      rfl
    refine done_ (done_of HT_.out (by kernel_rfl)) ?_
    try go_wp2
    go_ret2
    exact ⟨by first | rfl | (simp [errW_none, errW_some] <;> rfl) | (simp [*, errW_none, errW_some] <;> rfl), by repeat (first | (with_reducible first | exact HB.out | apply below_alloc | apply pw_below_drewN | apply below_drew1 | refine below_set ?_ GE101.out) | exact HB.out)⟩
  · replace c3 := Bool.eq_false_iff.mpr c3
    subst c3
    have H1 : ((path_May.f a0_0).bind fun t105 => (some (t105, decide ((a0_1.size : Int) > 100)))) = some (r1, r2) := by rw [if_neg (show ¬ (false = true) by decide)] at H; exact H
    clear H
    have H := H1
    clear H1
    replace H := Option.bind_eq_some_iff.mp H
    obtain ⟨t105, A80, H⟩ := H
    replace H : (some (t105, decide ((a0_1.size : Int) > 100))) = some (r1, r2) := H
    have A8 := Aside0.mk A80
    clear A80
    simp only [Option.some.injEq, Prod.mk.injEq] at H
    obtain ⟨rfl, rfl⟩ := H
    go_enter Tryz.func86, Tryz.ntmps86
    try go_wp2_with (first | ((with_reducible refine gate_dst (N := 1) rfl ?_); refine box_event ?hg (N := 1) ?hd (cs := #[.string a0_0, .string a0_1, .int .u8 a0_2, .int .i64 a0_3, .int .i64 a0_4, .int .i64 a0_5, .int .i64 a0_6, .string a0_7]) (t := 41) ?hr ?_; (case hd => rfl); (case hg => rfl); (case hr => first | (go_simp; done) | (go_simp; rfl)); intro gb101 hg w9 hbox hb; have n0_ := Aside0.mk (below_step (by repeat (first | (with_reducible first | exact HB.out | apply below_alloc | apply pw_below_drewN | apply below_drew1) | exact HB.out)) hb); have n1_ := Aside0.mk (hbox); have n2_ := Aside0.mk ((by rw [hg]; exact (below_size (by repeat (first | (with_reducible first | exact HB.out | apply below_alloc | apply pw_below_drewN | apply below_drew1) | exact HB.out))) : w.heap.size ≤ gb101)); have n3_ := Aside0.mk ((by rw [hg]; exact (below_size (by repeat (first | (with_reducible first | exact HB.out | apply below_alloc | apply pw_below_drewN | apply below_drew1) | exact HB.out))) : w.heap.size ≤ gb101)); clear HB; have HB := n0_; have BK101 := n1_; have GW101 := n2_; have GE101 := n3_; clear n0_ n1_ n2_ n3_; clear hb hbox hg; have hcz10_0 : w9.cell? ⟨gb101, 0, none⟩ = some (.string a0_0) := (blk_cell BK101.out 0).trans rfl; have hcz10_1 : w9.cell? ⟨gb101, 1, none⟩ = some (.string a0_1) := (blk_cell BK101.out 1).trans rfl; have hcz10_2 : w9.cell? ⟨gb101, 2, none⟩ = some (.int .u8 a0_2) := (blk_cell BK101.out 2).trans rfl; have hcz10_3 : w9.cell? ⟨gb101, 3, none⟩ = some (.int .i64 a0_3) := (blk_cell BK101.out 3).trans rfl; have hcz10_4 : w9.cell? ⟨gb101, 4, none⟩ = some (.int .i64 a0_4) := (blk_cell BK101.out 4).trans rfl; have hcz10_5 : w9.cell? ⟨gb101, 5, none⟩ = some (.int .i64 a0_5) := (blk_cell BK101.out 5).trans rfl; have hcz10_6 : w9.cell? ⟨gb101, 6, none⟩ = some (.int .i64 a0_6) := (blk_cell BK101.out 6).trans rfl; have hcz10_7 : w9.cell? ⟨gb101, 7, none⟩ = some (.string a0_7) := (blk_cell BK101.out 7).trans rfl; have hfz10_0 := blk_frozen BK101.out 0; have hfz10_1 := blk_frozen BK101.out 1; have hfz10_2 := blk_frozen BK101.out 2; have hfz10_3 := blk_frozen BK101.out 3; have hfz10_4 := blk_frozen BK101.out 4; have hfz10_5 := blk_frozen BK101.out 5; have hfz10_6 := blk_frozen BK101.out 6; have hfz10_7 := blk_frozen BK101.out 7) | ((with_reducible refine gate_callee (f := 114) rfl ?_); refine goesL_ (some 10) rfl rfl Tryz.func114 (by kernel_rfl) rfl #[.string a0_0] rfl (by (try simp only [List.map_toArray, List.map_cons, List.map_nil]); first | done | rfl | (simp only [List.length_drop, List.length_take]; rfl)) ?_; (with_reducible refine (path_Split.calls a0_0 t102 t103 false _ A2.out).mono ?_); rintro e w11 ⟨rfl, hb⟩; refine ⟨_, rfl, ?_⟩; have n0_ := Aside0.mk (blk_below (g := gb101) (o := .cells #[.string a0_0, .string a0_1, .int .u8 a0_2, .int .i64 a0_3, .int .i64 a0_4, .int .i64 a0_5, .int .i64 a0_6, .string a0_7] 41 (0, 0)) (by (with_reducible repeat (first | refine blk_drewN ?_ _ | refine blk_drew ?_ | refine blk_alloc ?_ _)); exact BK101.out) hb); have n1_ := Aside0.mk (below_step (by repeat (first | (with_reducible first | exact HB.out | apply below_alloc | apply pw_below_drewN | apply below_drew1 | refine below_set ?_ GE101.out) | exact HB.out)) hb); clear BK101; clear HB; have BK101 := n0_; have HB := n1_; clear n0_ n1_; (try clear hb); (try clear hb2); (try clear hk); (try clear hi)))
    have n0_ := Aside0.mk (blk_drew BK101.out)
    have n1_ := Aside0.mk (below_drew1 HB.out)
    clear BK101
    clear HB
    have BK101 := n0_
    have HB := n1_
    clear n0_ n1_
    refine start_ (n := 13) (S := fun w' => w'.cell? ⟨gb101, 0, none⟩ = some (.string a0_0) ∧ w'.cell? ⟨gb101, 1, none⟩ = some (.string a0_1) ∧ w'.cell? ⟨gb101, 2, none⟩ = some (.int .u8 a0_2) ∧ w'.cell? ⟨gb101, 3, none⟩ = some (.int .i64 a0_3) ∧ w'.cell? ⟨gb101, 4, none⟩ = some (.int .i64 a0_4) ∧ w'.cell? ⟨gb101, 5, none⟩ = some (.int .i64 a0_5) ∧ w'.cell? ⟨gb101, 6, none⟩ = some (.int .i64 a0_6) ∧ w'.cell? ⟨gb101, 7, none⟩ = some (.string a0_7)) (ds := []) #[false, false, false, false, false, false, false, false, false, false, false, false, false] (by kernel_rfl) rfl rfl ⟨(blk_cell BK101.out 0).trans rfl, (blk_cell BK101.out 1).trans rfl, (blk_cell BK101.out 2).trans rfl, (blk_cell BK101.out 3).trans rfl, (blk_cell BK101.out 4).trans rfl, (blk_cell BK101.out 5).trans rfl, (blk_cell BK101.out 6).trans rfl, (blk_cell BK101.out 7).trans rfl⟩ (fun hHeld => ?_); refine with_tabW long_Needs.tab2 long_Needs.bits2 (fun HT_ HW_ => ?_)
    generalize w11.drew = w12 at BK101 HB hHeld ⊢
    refine pure_ (i := 0) (N := some 14) (v := ?_) (a' := ?_) #[true, false, false, false, false, false, false, false, false, false, false, false, false] rfl rfl (any_of HT_.out (by kernel_rfl)) (fun _ _ _ h => h) (Or.inl ⟨by rfl, ?_⟩) ?_ ?_
    rotate_left
    · intro w'
      go_simp
      with_reducible rfl
    rotate_left
    · aput
      rfl
    refine pure_ (i := 1) (N := some 15) (v := ?_) (a' := ?_) #[true, true, false, false, false, false, false, false, false, false, false, false, false] rfl rfl (any_of HT_.out (by kernel_rfl)) (fun _ _ _ h => h) (Or.inl ⟨by rfl, ?_⟩) ?_ ?_
    rotate_left
    · intro w'
      go_simp
      with_reducible rfl
    rotate_left
    · aput
      rfl
    refine pure_ (i := 2) (N := some 16) (v := ?_) (a' := ?_) #[true, true, true, false, false, false, false, false, false, false, false, false, false] rfl rfl (any_of HT_.out (by kernel_rfl)) (fun _ _ _ h => h) (Or.inl ⟨by rfl, ?_⟩) ?_ ?_
    rotate_left
    · intro w'
      go_simp
      with_reducible rfl
    rotate_left
    · aput
      rfl
    refine pure_ (i := 3) (N := some 17) (v := ?_) (a' := ?_) #[true, true, true, true, false, false, false, false, false, false, false, false, false] rfl rfl (any_of HT_.out (by kernel_rfl)) (fun _ _ _ h => h) (Or.inl ⟨by rfl, ?_⟩) ?_ ?_
    rotate_left
    · intro w'
      go_simp
      with_reducible rfl
    rotate_left
    · aput
      rfl
    refine pure_ (i := 7) (N := some 21) (v := ?_) (a' := ?_) #[true, true, true, true, false, false, false, true, false, false, false, false, false] rfl rfl (any_of HT_.out (by kernel_rfl)) (fun _ _ _ h => h) (Or.inl ⟨by rfl, ?_⟩) ?_ ?_
    rotate_left
    · intro w'
      go_simp
      with_reducible rfl
    rotate_left
    · aput
      rfl
    refine take_ (i := 4) (N := some 18) (v := ?_) (a' := ?_) #[true, true, true, true, true, false, false, true, false, false, false, false, false] rfl rfl (take_ofW HT_.out HW_.out (by kernel_rfl)) (fun _ _ _ h => h) (Or.inl ⟨by rfl, ?_⟩) hHeld ?_ ?_
    rotate_left
    · rintro w' ⟨s0, s1, s2, s3, s4, s5, s6, s7⟩
      go_simp
      with_reducible rfl
    rotate_left
    · aput
      rfl
    refine take_ (i := 8) (N := some 22) (v := ?_) (a' := ?_) #[true, true, true, true, true, false, false, true, true, false, false, false, false] rfl rfl (take_ofW HT_.out HW_.out (by kernel_rfl)) (fun _ _ _ h => h) (Or.inl ⟨by rfl, ?_⟩) hHeld ?_ ?_
    rotate_left
    · rintro w' ⟨s0, s1, s2, s3, s4, s5, s6, s7⟩
      go_simp
      with_reducible rfl
    rotate_left
    · aput
      rfl
    refine pure_ (i := 9) (N := some 23) (v := ?_) (a' := ?_) #[true, true, true, true, true, false, false, true, true, true, false, false, false] rfl rfl (any_of HT_.out (by kernel_rfl)) (fun _ _ _ h => h) (Or.inl ⟨by rfl, ?_⟩) ?_ ?_
    rotate_left
    · intro w'
      go_simp
      with_reducible rfl
    rotate_left
    · aput
      rfl
    refine pure_ (i := 10) (N := some 24) (v := ?_) (a' := ?_) #[true, true, true, true, true, false, false, true, true, true, true, false, false] rfl rfl (any_of HT_.out (by kernel_rfl)) (fun _ _ _ h => h) (Or.inl ⟨by rfl, ?_⟩) ?_ ?_
    rotate_left
    · intro w'
      go_simp
      with_reducible rfl
    rotate_left
    · aput
      rfl
    refine one_ (i := 5) (N := some 19) #[true, true, true, true, true, true, false, true, true, true, true, false, false] rfl rfl (one_of HT_.out (by kernel_rfl)) (by decide) (fun K hK => ?_)
    refine goes_ Tryz.func49 (by kernel_rfl) rfl #[.string a0_0] (by rfl) rfl rfl (by (try simp only [List.map_toArray, List.map_cons, List.map_nil]); first | done | rfl | (simp only [List.length_drop, List.length_take]; rfl)) ?_
    with_reducible refine (path_May.calls a0_0 t105 _ A8.out).mono ?_
    rintro e w13 ⟨rfl, hb⟩
    refine ⟨_, rfl, ?_⟩
    have n0_ := Aside0.mk (blk_below (g := gb101) (o := .cells #[.string a0_0, .string a0_1, .int .u8 a0_2, .int .i64 a0_3, .int .i64 a0_4, .int .i64 a0_5, .int .i64 a0_6, .string a0_7] 41 (0, 0)) (by (with_reducible repeat (first | refine blk_drewN ?_ _ | refine blk_drew ?_ | refine blk_alloc ?_ _)); exact BK101.out) hb)
    have n1_ := Aside0.mk (below_step (by repeat (first | (with_reducible first | exact HB.out | apply below_alloc | apply pw_below_drewN | apply below_drew1 | refine below_set ?_ GE101.out) | exact HB.out)) hb)
    clear BK101
    clear HB
    have BK101 := n0_
    have HB := n1_
    clear n0_ n1_
    (try clear hb)
    (try clear hb2)
    (try clear hk)
    (try clear hi)
    refine hK.out _ _ ⟨(blk_cell BK101.out 0).trans rfl, (blk_cell BK101.out 1).trans rfl, (blk_cell BK101.out 2).trans rfl, (blk_cell BK101.out 3).trans rfl, (blk_cell BK101.out 4).trans rfl, (blk_cell BK101.out 5).trans rfl, (blk_cell BK101.out 6).trans rfl, (blk_cell BK101.out 7).trans rfl⟩ (fun hHeld => ?_)
    clear hK K
    refine norm_ (a' := ?_) ?_ ?_
    rotate_left
    · show Act.put _ (some 19) _ = _
      aput
      rfl
    refine pure_ (i := 6) (N := some 20) (v := ?_) (a' := ?_) #[true, true, true, true, true, true, true, true, true, true, true, false, false] rfl rfl (any_of HT_.out (by kernel_rfl)) (fun _ _ _ h => h) (Or.inl ⟨by rfl, ?_⟩) ?_ ?_
    rotate_left
    · intro w'
      go_simp
      with_reducible rfl
    rotate_left
    · aput
      rfl
    refine pure_ (i := 11) (N := some 2) (v := ?_) (a' := ?_) #[true, true, true, true, true, true, true, true, true, true, true, true, false] rfl rfl (any_of HT_.out (by kernel_rfl)) (fun _ _ _ h => h) (Or.inl ⟨by rfl, ?_⟩) ?_ ?_
    rotate_left
    · intro w'
      go_simp
      with_reducible rfl
    rotate_left
    · aput
      rfl
    refine pure_ (i := 12) (N := some 3) (v := ?_) (a' := ?_) #[true, true, true, true, true, true, true, true, true, true, true, true, true] rfl rfl (any_of HT_.out (by kernel_rfl)) (fun _ _ _ h => h) (Or.inl ⟨by rfl, ?_⟩) ?_ ?_
    rotate_left
    · intro w'
      go_simp
      with_reducible rfl
    rotate_left
    · aput
      rfl
    refine done_ (done_of HT_.out (by kernel_rfl)) ?_
    try go_wp2
    go_ret2
    exact ⟨by first | rfl | (simp [errW_none, errW_some] <;> rfl) | (simp [*, errW_none, errW_some] <;> rfl), by repeat (first | (with_reducible first | exact HB.out | apply below_alloc | apply pw_below_drewN | apply below_drew1 | refine below_set ?_ GE101.out) | exact HB.out)⟩
end
section
def shortB (s : ByteArray) : ByteArray := if 100 < s.size then s.extract 0 100 else s
set_option maxHeartbeats 1600000 in
theorem long_short.at_ (s : ByteArray) (w : World) :
    Calls Tryz.prog 129 #[.string s] w fun e w' => e = .returned (.string (shortB s)) ∧ w' = w := by
  unfold shortB
  by_cases c : 100 < s.size
  · rw [if_pos c]
    have c2 : (100 : Int) < (s.size : Int) := by omega
    have c3 : (100 : Int) ≤ (s.size : Int) := by omega
    go_enter Tryz.func129, Tryz.ntmps129
    go_wp2
    go_ret
    exact ⟨rfl, rfl⟩
  · rw [if_neg c]
    have c2 : ¬ (100 : Int) < (s.size : Int) := by omega
    go_enter Tryz.func129, Tryz.ntmps129
    go_wp2
    go_ret
    exact ⟨rfl, rfl⟩
def long_Names.f (a0 a1 : ByteArray) (a2 a3 a4 a5 a6 : Int) (a7 : ByteArray) : Option (ByteArray × ByteArray × ByteArray) :=
  (path_Split.f a0).bind fun p => (long_Needs.f a0 a1 a2 a3 a4 a5 a6 a7).bind fun q => some (if q.1 = true then shortB a0 else p.2.1, p.1, shortB a1)
set_option maxHeartbeats 1600000 in
set_option maxRecDepth 100000 in
theorem long_Names.calls (a0 a1 : ByteArray) (a2 a3 a4 a5 a6 : Int) (a7 : ByteArray) (r1 r2 r3 : ByteArray) (w : World) (h : long_Names.f a0 a1 a2 a3 a4 a5 a6 a7 = some (r1, r2, r3)) :
    Calls Tryz.prog 110 #[.agg #[.string a0, .string a1, .int .u8 a2, .int .i64 a3, .int .i64 a4, .int .i64 a5, .int .i64 a6, .string a7]] w fun e w' => e = .returned (.tuple #[.string r1, .string r2, .string r3]) ∧ Below w.heap.size w w' := by
  unfold long_Names.f at h
  replace h := Option.bind_eq_some_iff.1 h
  obtain ⟨⟨p1, p2, p3⟩, A1, h⟩ := h
  replace h := Option.bind_eq_some_iff.1 h
  obtain ⟨⟨q1, q2⟩, A2, h⟩ := h
  simp only at h
  have h := Option.some.inj h
  simp only [Prod.mk.injEq] at h
  obtain ⟨rfl, rfl, rfl⟩ := h
  have hsp := fun W => path_Split.calls a0 p1 p2 p3 W A1
  have hne := fun W => long_Needs.calls a0 a1 a2 a3 a4 a5 a6 a7 q1 q2 W A2
  have hsh := long_short.at_
  obtain ⟨s0, hs0⟩ : ∃ s, s = shortB a0 := ⟨_, rfl⟩
  obtain ⟨s1, hs1⟩ : ∃ s, s = shortB a1 := ⟨_, rfl⟩
  have hsh0 := fun W => hsh a0 W
  have hsh1 := fun W => hsh a1 W
  rw [← hs0] at hsh0 ⊢
  rw [← hs1] at hsh1 ⊢
  have HB := Aside0.mk (below_alloc (Below.refl w.heap.size w) (.cells #[.string a0, .string a1, .int .u8 a2, .int .i64 a3, .int .i64 a4, .int .i64 a5, .int .i64 a6, .string a7] 41))
  have HX := Aside0.mk (heap_alloc_new w (.cells #[.string a0, .string a1, .int .u8 a2, .int .i64 a3, .int .i64 a4, .int .i64 a5, .int .i64 a6, .string a7] 41))
  clear hs0 hs1 hsh A1 A2
  go_enter Tryz.func110, Tryz.ntmps110
  cases q1 with
  | true =>
    go_wp2_with (first | (go_at_call 114; refine (hsp _).mono ?_; rintro e w1 ⟨rfl, hb⟩; have HB1 := Aside0.mk (below_step HB.out hb); have HX1 := Aside0.mk (blk_below HX.out hb); clear hb; have z0x1 := (blk_cell HX1.out 0).trans (show _ = some (Value.string a0) from rfl); have z1x1 := (blk_cell HX1.out 1).trans (show _ = some (Value.string a1) from rfl); have z2x1 := (blk_cell HX1.out 2).trans (show _ = some (Value.int .u8 a2) from rfl); have z3x1 := (blk_cell HX1.out 3).trans (show _ = some (Value.int .i64 a3) from rfl); have z4x1 := (blk_cell HX1.out 4).trans (show _ = some (Value.int .i64 a4) from rfl); have z5x1 := (blk_cell HX1.out 5).trans (show _ = some (Value.int .i64 a5) from rfl); have z6x1 := (blk_cell HX1.out 6).trans (show _ = some (Value.int .i64 a6) from rfl); have z7x1 := (blk_cell HX1.out 7).trans (show _ = some (Value.string a7) from rfl)) | (go_at_call 86; refine (hne _).mono ?_; rintro e w2 ⟨rfl, hb⟩; have HB2 := Aside0.mk (below_step HB1.out hb); have HX2 := Aside0.mk (blk_below HX1.out hb); clear hb; have z0x2 := (blk_cell HX2.out 0).trans (show _ = some (Value.string a0) from rfl); have z1x2 := (blk_cell HX2.out 1).trans (show _ = some (Value.string a1) from rfl); have z2x2 := (blk_cell HX2.out 2).trans (show _ = some (Value.int .u8 a2) from rfl); have z3x2 := (blk_cell HX2.out 3).trans (show _ = some (Value.int .i64 a3) from rfl); have z4x2 := (blk_cell HX2.out 4).trans (show _ = some (Value.int .i64 a4) from rfl); have z5x2 := (blk_cell HX2.out 5).trans (show _ = some (Value.int .i64 a5) from rfl); have z6x2 := (blk_cell HX2.out 6).trans (show _ = some (Value.int .i64 a6) from rfl); have z7x2 := (blk_cell HX2.out 7).trans (show _ = some (Value.string a7) from rfl)) | (go_at_call 129; refine (hsh0 _).mono ?_; rintro e w3 ⟨rfl, rfl⟩) | (go_at_call 129; refine (hsh1 _).mono ?_; rintro e w3 ⟨rfl, rfl⟩))
    go_ret3
    exact ⟨rfl, HB2.out⟩
  | false =>
    go_wp2_with (first | (go_at_call 114; refine (hsp _).mono ?_; rintro e w1 ⟨rfl, hb⟩; have HB1 := Aside0.mk (below_step HB.out hb); have HX1 := Aside0.mk (blk_below HX.out hb); clear hb; have z0x1 := (blk_cell HX1.out 0).trans (show _ = some (Value.string a0) from rfl); have z1x1 := (blk_cell HX1.out 1).trans (show _ = some (Value.string a1) from rfl); have z2x1 := (blk_cell HX1.out 2).trans (show _ = some (Value.int .u8 a2) from rfl); have z3x1 := (blk_cell HX1.out 3).trans (show _ = some (Value.int .i64 a3) from rfl); have z4x1 := (blk_cell HX1.out 4).trans (show _ = some (Value.int .i64 a4) from rfl); have z5x1 := (blk_cell HX1.out 5).trans (show _ = some (Value.int .i64 a5) from rfl); have z6x1 := (blk_cell HX1.out 6).trans (show _ = some (Value.int .i64 a6) from rfl); have z7x1 := (blk_cell HX1.out 7).trans (show _ = some (Value.string a7) from rfl)) | (go_at_call 86; refine (hne _).mono ?_; rintro e w2 ⟨rfl, hb⟩; have HB2 := Aside0.mk (below_step HB1.out hb); have HX2 := Aside0.mk (blk_below HX1.out hb); clear hb; have z0x2 := (blk_cell HX2.out 0).trans (show _ = some (Value.string a0) from rfl); have z1x2 := (blk_cell HX2.out 1).trans (show _ = some (Value.string a1) from rfl); have z2x2 := (blk_cell HX2.out 2).trans (show _ = some (Value.int .u8 a2) from rfl); have z3x2 := (blk_cell HX2.out 3).trans (show _ = some (Value.int .i64 a3) from rfl); have z4x2 := (blk_cell HX2.out 4).trans (show _ = some (Value.int .i64 a4) from rfl); have z5x2 := (blk_cell HX2.out 5).trans (show _ = some (Value.int .i64 a5) from rfl); have z6x2 := (blk_cell HX2.out 6).trans (show _ = some (Value.int .i64 a6) from rfl); have z7x2 := (blk_cell HX2.out 7).trans (show _ = some (Value.string a7) from rfl)) | (go_at_call 129; refine (hsh1 _).mono ?_; rintro e w3 ⟨rfl, rfl⟩))
    go_ret3
    exact ⟨rfl, HB2.out⟩
end
section
open Go.Proofs.YtpedagpcblnnhaaGreatY
theorem InRow.lit {e base : Nat} {ok : Nat → Prop} {w : World} {v : Value} {x : List Int} (h : Kd.R (Kd.int .u8) e w base ok v x) (he : e = 5) : InRow base (w.alloc (.cells #[v] 43)) (some ⟨w.heap.size, 0, none⟩, 1, [x]) := by
  subst he
  refine ⟨Nat.le_refl _, rfl, by simp, fun _ => ⟨_, rfl, fun j p hp => ?_⟩⟩
  cases j with
  | succ j => simp at hp
  | zero =>
    simp only [List.getElem?_cons_zero, Option.some.injEq] at hp
    subst hp
    refine ⟨[v], rfl, ⟨v, rfl, Kd.R_mono (Kd.R_alloc h _) (fun _ _ => trivial)⟩, fun i u hu => ?_⟩
    cases i with
    | succ i => simp at hu
    | zero =>
      simp only [List.getElem?_cons_zero, Option.some.injEq] at hu
      subst hu
      rw [add_plain, blk_cell (heap_alloc_new w _)]
      simp
def longHd (kind : Int) (s : ByteArray) : Hd := ⟨⟨#[46, 47, 46, 47, 64, 76, 111, 110, 103, 76, 105, 110, 107]⟩, ⟨#[]⟩, ⟨#[]⟩, 0, 0, 0, (s.size : Int) + 1, 0, kind, 0, 0⟩
def longL (kind : Int) (s : ByteArray) : List (List Int) := (headPut (longHd kind s)).1 :: cutL (s ++ ⟨#[0]⟩)
def longOk (kind : Int) (t : Bool) : Bool := (kind == 75 || kind == 76) && t
def long_Put.f (a0 : Int) (a1 : ByteArray) : Option (List (List Int) × Bool) :=
  if (0 ≤ a0 ∧ a0 ≤ 255) ∧ a1.size ≤ 10000 then (long_Text.f a1).bind fun t => some (if longOk a0 t = true then (longL a0 a1, true) else ([], false)) else none
set_option maxHeartbeats 1600000 in
set_option maxRecDepth 100000 in
theorem long_Put.ok (a0 : Int) (a1 : ByteArray) (w : World) (h0 : 0 ≤ a0 ∧ a0 ≤ 255) (h1 : a1.size ≤ 10000) (ht : long_Text.f a1 = some true) (hk : a0 = 75 ∨ a0 = 76) :
    Calls Tryz.prog 88 #[.int .u8 a0, .string a1] w fun e w' => ∃ v, e = .returned (.tuple #[v, .bool true]) ∧ Kd.R kRow 43 w' w.heap.size (fun _ => True) v (longL a0 a1) ∧ Below w.heap.size w w' := by
  have htext := fun W => long_Text.calls a1 true W ht
  have hhead := fun W => head_Put.calls ⟨#[46, 47, 46, 47, 64, 76, 111, 110, 103, 76, 105, 110, 107]⟩ ⟨#[]⟩ ⟨#[]⟩ 0 0 0 ((a1.size : Int) + 1) 0 a0 0 0 (headPut (longHd a0 a1)).1 (headPut (longHd a0 a1)).2 W (by
    unfold head_Put.f
    rw [if_pos ⟨h0, by simp, by simp, by simp, by simp only; omega, by simp, by simp, by simp⟩]
    rfl)
  have hcs : (cutL (a1 ++ ⟨#[0]⟩)).length ≤ 20000 := by
    unfold cutL
    rw [List.length_map]
    have h2 := (piecesA_size _ (a1 ++ ⟨#[0]⟩) rfl).1
    have h3 : (a1 ++ ⟨#[0]⟩ : ByteArray).size = a1.size + 1 := by rw [ByteArray.size_append]; rfl
    omega
  have hcut := fun W => block_Cut.calls (a1 ++ ⟨#[0]⟩) (cutL (a1 ++ ⟨#[0]⟩)) W (by
    unfold block_Cut.f
    rw [if_pos]
    have h3 : (a1 ++ ⟨#[0]⟩ : ByteArray).size = a1.size + 1 := by rw [ByteArray.size_append]; rfl
    omega)
  have HCS := Aside0.mk hcs
  have hlong : longL a0 a1 = (headPut (longHd a0 a1)).1 :: cutL (a1 ++ ⟨#[0]⟩) := rfl
  rw [hlong]
  generalize (headPut (longHd a0 a1)).1 = hb at *
  generalize (headPut (longHd a0 a1)).2 = ho at *
  generalize cutL (a1 ++ ⟨#[0]⟩) = cu at *
  have hhead2 : ∀ W, Calls Tryz.prog 53 #[.agg #[.string ⟨#[46, 47, 46, 47, 64, 76, 111, 110, 103, 76, 105, 110, 107]⟩, .string ⟨#[]⟩, .string ⟨#[]⟩, .int .i64 0, .int .i64 0, .int .i64 0, .int .i64 ((a1.size : Int) + 1), .int .i64 0, .int .u8 a0, .int .i64 0, .int .i64 0]] W fun e w' => ∃ A c, e = .returned (.tuple #[.slice A hb.length c, .bool ho]) ∧ Aside0 (Kd.R (Kd.int .u8) 5 w' W.heap.size (fun _ => True) (.slice A hb.length c) hb) ∧ Aside0 (Below W.heap.size W w') := fun W => (hhead W).mono (by
    rintro e w' ⟨v, rfl, hR, hB⟩
    obtain ⟨A, c, rfl⟩ := Kd.R_slice hR
    exact ⟨A, c, rfl, ⟨hR⟩, ⟨hB⟩⟩)
  have hcut2 : ∀ W, Calls Tryz.prog 56 #[.string (a1 ++ ⟨#[0]⟩)] W fun e w' => ∃ A c, e = .returned (.slice A cu.length c) ∧ Aside0 (Kd.R kRow 43 w' W.heap.size (fun _ => True) (.slice A cu.length c) cu) ∧ Aside0 (Below W.heap.size W w') := fun W => (hcut W).mono (by
    rintro e w' ⟨v, rfl, hR, hB⟩
    obtain ⟨A, c, rfl⟩ := Kd.R_slice hR
    exact ⟨A, c, rfl, ⟨hR⟩, ⟨hB⟩⟩)
  have hm : (a1.size : Int) + 1 ≤ 9223372036854775807 := by omega
  clear hhead hcut hlong ht hcs
  rcases hk with rfl | rfl
  all_goals
    go_enter Tryz.func88, Tryz.ntmps88
    go_wp2_with (first | (go_at_call 63; refine (htext _).mono ?_; rintro e w' ⟨rfl, ⟨nd, rfl⟩⟩) | (go_at_call 53; refine (hhead2 _).mono ?_; rintro e w1 ⟨A1, c1, rfl, HR1, HB1⟩) | (go_at_call 56; refine (hcut2 _).mono ?_; rintro e w2 ⟨A2, c2, rfl, HR2, HB2⟩))
    have hin1 := (InRow.lit HR1.out rfl).below HB2.out
    obtain ⟨A3, c3, hv3, hin2⟩ := InRow.of_R HR2.out (b := w.heap.size) (by have := HB1.out.size; simp at this ⊢; omega)
    injection hv3 with e1 e2 e3
    subst e1 e3
    have hB2 : Below w.heap.size w w2 := below_step (below_alloc (below_step (pw_below_drewN (Below.refl _ _) _) HB1.out) _) HB2.out
    have hcat := slices_Concat.at_ w.heap.size w2.heap.size [(some ⟨w1.heap.size, 0, none⟩, 1, [hb]), (A2, c2, cu)] (w2.alloc (.cells #[.slice (some ⟨w1.heap.size, 0, none⟩) 1 1, .slice A2 cu.length c2] 23)) (heap_alloc_new w2 _) (by
      intro x hx
      simp only [List.mem_cons, List.not_mem_nil, or_false] at hx
      rcases hx with rfl | rfl
      · exact hin1.below (below_alloc (Below.refl _ _) _)
      · exact hin2.below (below_alloc (Below.refl _ _) _)) (by have := HCS.out; simp only [totalL, List.map_cons, List.map_nil, List.sum_cons, List.sum_nil, List.length_cons, List.length_nil]; omega) (by simp) (by have := hB2.size; simp; omega)
    have HB := Aside0.mk hB2
    have hfl : flatL [(some (⟨w1.heap.size, 0, none⟩ : Addr), 1, [hb]), (A2, c2, cu)] = hb :: cu := by simp [flatL]
    rw [hfl] at hcat
    clear e2 hin1 hin2 hB2 hfl
    refine hcat.mono ?_
    rintro e w3 ⟨v, rfl, hR, hb3⟩
    obtain ⟨A5, c5, rfl⟩ := Kd.R_slice hR
    go_wp2_with (fail)
    go_ret2
    exact ⟨_, rfl, hR, below_step (below_alloc HB.out _) hb3⟩
set_option maxHeartbeats 1600000 in
set_option maxRecDepth 100000 in
theorem long_Put.no (a0 : Int) (a1 : ByteArray) (t : Bool) (w : World) (ht : long_Text.f a1 = some t) (hk : longOk a0 t = false) :
    Calls Tryz.prog 88 #[.int .u8 a0, .string a1] w fun e w' => e = .returned (.tuple #[.slice none 0 0, .bool false]) ∧ Below w.heap.size w w' := by
  have htext := fun W => long_Text.calls a1 t W ht
  unfold longOk at hk
  by_cases c1 : a0 = 75
  · subst c1
    have : t = false := by simpa using hk
    subst this
    clear hk
    go_enter Tryz.func88, Tryz.ntmps88
    go_wp2_with (first | (go_at_call 63; refine (htext _).mono ?_; rintro e w' ⟨rfl, ⟨nd, rfl⟩⟩))
    go_ret2
    exact ⟨rfl, pw_below_drewN (Below.refl _ _) _⟩
  by_cases c2 : a0 = 76
  · subst c2
    have : t = false := by simpa using hk
    subst this
    clear hk c1
    go_enter Tryz.func88, Tryz.ntmps88
    go_wp2_with (first | (go_at_call 63; refine (htext _).mono ?_; rintro e w' ⟨rfl, ⟨nd, rfl⟩⟩))
    go_ret2
    exact ⟨rfl, pw_below_drewN (Below.refl _ _) _⟩
  · have b1 : (a0 == 75) = false := beq_eq_false_iff_ne.2 c1
    have b2 : (a0 == 76) = false := beq_eq_false_iff_ne.2 c2
    have b3 := ne_of_beq b1
    have b4 := ne_of_beq b2
    clear hk c1 c2 ht
    go_enter Tryz.func88, Tryz.ntmps88
    go_wp2_with (first | (go_at_call 63; refine (htext _).mono ?_; rintro e w' ⟨rfl, ⟨nd, rfl⟩⟩))
    go_ret2
    exact ⟨rfl, Below.refl _ _⟩
theorem long_Put.calls (a0 : Int) (a1 : ByteArray) (r1 : List (List Int)) (r2 : Bool) (w : World) (h : long_Put.f a0 a1 = some (r1, r2)) :
    Calls Tryz.prog 88 #[.int .u8 a0, .string a1] w fun e w' => ∃ v0_ : Value, e = .returned (.tuple #[v0_, .bool r2]) ∧ Kd.R kRow 43 w' w.heap.size (fun _ => True) v0_ r1 ∧ Below w.heap.size w w' := by
  unfold long_Put.f at h
  by_cases hc : (0 ≤ a0 ∧ a0 ≤ 255) ∧ a1.size ≤ 10000
  · rw [if_pos hc] at h
    obtain ⟨t, ht, h⟩ := Option.bind_eq_some_iff.mp h
    have hr := Option.some.inj h
    cases hk : longOk a0 t with
    | true =>
      rw [if_pos hk] at hr
      obtain ⟨rfl, rfl⟩ := Prod.mk.inj hr
      unfold longOk at hk
      simp only [Bool.and_eq_true, Bool.or_eq_true, beq_iff_eq] at hk
      obtain ⟨hk1, rfl⟩ := hk
      exact long_Put.ok a0 a1 w hc.1 hc.2 ht hk1
    | false =>
      rw [if_neg (by rw [hk]; decide)] at hr
      obtain ⟨rfl, rfl⟩ := Prod.mk.inj hr
      refine (long_Put.no a0 a1 t w ht hk).mono ?_
      rintro e w' ⟨rfl, hb⟩
      exact ⟨_, rfl, Kd.R_nil _ _ _ _ _, hb⟩
  · rw [if_neg hc] at h
    cases h
end
section
open Go.Proofs.YtpedagpcblnnhaaGreatY
def aheadF (is : Bool) (kind : Int) (s : ByteArray) : Option (List (List Int)) := if is = true then (long_Put.f kind s).map (·.1) else some []
set_option maxHeartbeats 1600000 in
set_option maxRecDepth 100000 in
theorem long_put.at_ (is : Bool) (kind : Int) (s : ByteArray) (r : List (List Int)) (w : World) (h : aheadF is kind s = some r) :
    Calls Tryz.prog 87 #[.bool is, .int .u8 kind, .string s] w fun e w' => ∃ A c, e = .returned (.slice A r.length c) ∧ Aside0 (InRow w.heap.size w' (A, c, r)) ∧ Aside0 (Below w.heap.size w w') := by
  unfold aheadF at h
  cases is with
  | false =>
    rw [if_neg (by decide)] at h
    obtain rfl := Option.some.inj h
    go_enter Tryz.func87, Tryz.ntmps87
    go_wp2
    go_ret
    obtain ⟨A, c, hv, hin⟩ := InRow.of_R (Kd.R_nil kRow 43 w w.heap.size (fun _ => True)) (Nat.le_refl _)
    injection hv with e1 e2 e3
    subst e1 e3
    exact ⟨none, 0, rfl, ⟨hin⟩, ⟨Below.refl _ _⟩⟩
  | true =>
    rw [if_pos rfl] at h
    obtain ⟨⟨r1, r2⟩, hp, h⟩ := Option.map_eq_some_iff.1 h
    simp only at h
    subst h
    have hput := fun W => long_Put.calls kind s r1 r2 W hp
    clear hp
    go_enter Tryz.func87, Tryz.ntmps87
    go_wp2_with (first | (go_at_call 88; refine (hput _).mono ?_; rintro e w1 ⟨v, rfl, hR, hB⟩; have HR := Aside0.mk hR; have HB := Aside0.mk hB; clear hR hB))
    go_ret
    obtain ⟨A, c, rfl, hin⟩ := InRow.of_R HR.out (Nat.le_refl _)
    exact ⟨A, c, rfl, ⟨hin⟩, HB⟩
set_option maxHeartbeats 1600000 in
theorem long_joined.at_ (base b : Nat) (xs : List (Option Addr × Nat × List (List Int))) (w : World) (hb : w.heap[b]? = some (.cells (xs.map inV).toArray 23 (0, 0))) (hxs : ∀ x ∈ xs, InRow base w x) (hl : totalL xs ≤ 100000) (hn : xs.length ≤ 1000) (hbase : base ≤ w.heap.size) :
    Calls Tryz.prog 89 #[.slice (some ⟨b, 0, none⟩) xs.length xs.length] w fun e w' => ∃ v, e = .returned v ∧ Kd.R kRow 43 w' base (fun _ => True) v (flatL xs) ∧ Below w.heap.size w w' := by
  have hcat := slices_Concat.at_ base b xs w hb hxs hl hn hbase
  clear hb hxs
  go_enter Tryz.func89, Tryz.ntmps89
  go_wp2_with (first | (go_at_call 26; refine hcat.mono ?_; rintro e w1 ⟨v, rfl, hR, hB⟩))
  go_ret
  exact ⟨v, rfl, hR, hB⟩
theorem InRow.lower {base b : Nat} {w : World} {x : Option Addr × Nat × List (List Int)} (h : InRow base w x) (hb : b ≤ base) : InRow b w x :=
  ⟨h.cap, h.row.imp_ (Below.refl _ _) (fun _ _ hp => kRow.M_lower hb (kRow.M_mono (fun _ _ => trivial) hp))⟩
def long_Ahead.f (a0 a1 : ByteArray) (a2 a3 a4 a5 a6 : Int) (a7 : ByteArray) : Option (List (List Int)) :=
  (long_Needs.f a0 a1 a2 a3 a4 a5 a6 a7).bind fun q => (aheadF q.2 75 a1).bind fun x => (aheadF q.1 76 a0).bind fun y => if x.length + y.length ≤ 100000 then some (x ++ y) else none
set_option maxHeartbeats 3200000 in
set_option maxRecDepth 100000 in
theorem long_Ahead.calls (a0 a1 : ByteArray) (a2 a3 a4 a5 a6 : Int) (a7 : ByteArray) (r : List (List Int)) (w : World) (h : long_Ahead.f a0 a1 a2 a3 a4 a5 a6 a7 = some r) :
    Calls Tryz.prog 55 #[.agg #[.string a0, .string a1, .int .u8 a2, .int .i64 a3, .int .i64 a4, .int .i64 a5, .int .i64 a6, .string a7]] w fun e w' => ∃ v0_ : Value, e = .returned v0_ ∧ Kd.R kRow 43 w' w.heap.size (fun _ => True) v0_ r ∧ Below w.heap.size w w' := by
  unfold long_Ahead.f at h
  replace h := Option.bind_eq_some_iff.1 h
  obtain ⟨⟨q1, q2⟩, A1, h⟩ := h
  simp only at h
  replace h := Option.bind_eq_some_iff.1 h
  obtain ⟨x, A2, h⟩ := h
  replace h := Option.bind_eq_some_iff.1 h
  obtain ⟨y, A3, h⟩ := h
  have hlen : x.length + y.length ≤ 100000 := by
    rcases Nat.lt_or_ge 100000 (x.length + y.length) with h0 | h0
    · rw [if_neg (by omega)] at h; cases h
    · exact h0
  rw [if_pos hlen] at h
  obtain rfl := Option.some.inj h
  have hne := fun W => long_Needs.calls a0 a1 a2 a3 a4 a5 a6 a7 q1 q2 W A1
  have hpa := fun W => long_put.at_ q2 75 a1 x W A2
  have hpb := fun W => long_put.at_ q1 76 a0 y W A3
  have HB := Aside0.mk (below_alloc (Below.refl w.heap.size w) (.cells #[.string a0, .string a1, .int .u8 a2, .int .i64 a3, .int .i64 a4, .int .i64 a5, .int .i64 a6, .string a7] 41))
  have HX := Aside0.mk (heap_alloc_new w (.cells #[.string a0, .string a1, .int .u8 a2, .int .i64 a3, .int .i64 a4, .int .i64 a5, .int .i64 a6, .string a7] 41))
  clear A1 A2 A3 h
  go_enter Tryz.func55, Tryz.ntmps55
  go_upto_region 3 with (first | (go_at_call 86; refine (hne _).mono ?_; rintro e w1 ⟨rfl, hb⟩; have HB1 := Aside0.mk (below_step HB.out hb); have HX1 := Aside0.mk (blk_below HX.out hb); clear hb))
  clear hne HB HX
  go_cut [2] (fun v2 wc => Aside0 (Kd.R kRow 43 wc w.heap.size (fun _ => True) v2 (x ++ y)) ∧ Aside0 (Below w.heap.size w wc))
  case first =>
    have HXd := Aside0.mk (blk_drew HX1.out)
    have HBd := Aside0.mk (below_drew HB1.out)
    have z0 : w1.cell? ⟨w.heap.size, 0, none⟩ = some (.string a0) := (blk_cell HX1.out 0).trans rfl
    have z1 : w1.cell? ⟨w.heap.size, 1, none⟩ = some (.string a1) := (blk_cell HX1.out 1).trans rfl
    refine wp_region_held_drew (S := fun w' => w'.heap[w.heap.size]? = some (.cells #[.string a0, .string a1, .int .u8 a2, .int .i64 a3, .int .i64 a4, .int .i64 a5, .int .i64 a6, .string a7] 41)) (by kernel_rfl) HX1.out (fun hHeld => ?_)
    refine wpAnyH_take (i := 0) (v := ?_) rfl (by kernel_rfl) (by kernel_rfl) (by kernel_rfl) (fun _ _ _ h => h) (Or.inl ⟨by rfl, ?_⟩) (by assumption) ?_
    rotate_left
    · intro w hSw
      try dsimp only at hSw
      go_simp
      try with_reducible rfl
    try aput2
    refine wpAnyH_take (i := 1) (v := ?_) rfl (by kernel_rfl) (by kernel_rfl) (by kernel_rfl) (fun _ _ _ h => h) (Or.inl ⟨by rfl, ?_⟩) (by assumption) ?_
    rotate_left
    · intro w hSw
      try dsimp only at hSw
      go_simp
      try with_reducible rfl
    try aput2
    refine wpAnyH_take (i := 2) (v := ?_) rfl (by kernel_rfl) (by kernel_rfl) (by kernel_rfl) (fun _ _ _ h => h) (Or.inl ⟨by rfl, ?_⟩) (by assumption) ?_
    rotate_left
    · intro w hSw
      try dsimp only at hSw
      go_simp
      try with_reducible rfl
    try aput2
    refine wpAnyH_take (i := 5) (v := ?_) rfl (by kernel_rfl) (by kernel_rfl) (by kernel_rfl) (fun _ _ _ h => h) (Or.inl ⟨by rfl, ?_⟩) (by assumption) ?_
    rotate_left
    · intro w hSw
      try dsimp only at hSw
      go_simp
      try with_reducible rfl
    try aput2
    refine wpAnyH_take (i := 6) (v := ?_) rfl (by kernel_rfl) (by kernel_rfl) (by kernel_rfl) (fun _ _ _ h => h) (Or.inl ⟨by rfl, ?_⟩) (by assumption) ?_
    rotate_left
    · intro w hSw
      try dsimp only at hSw
      go_simp
      try with_reducible rfl
    try aput2
    refine wpAnyH_take (i := 7) (v := ?_) rfl (by kernel_rfl) (by kernel_rfl) (by kernel_rfl) (fun _ _ _ h => h) (Or.inl ⟨by rfl, ?_⟩) (by assumption) ?_
    rotate_left
    · intro w hSw
      try dsimp only at hSw
      go_simp
      try with_reducible rfl
    try aput2
    try aput2
    refine wpAnyH_ready (rs := [3, 8]) (by kernel_rfl) (by simp) ?_
    refine AllReadyH.cons rfl (fun K hK => ?_) (AllReadyH.cons rfl (fun K hK => ?_) AllReadyH.nil)
    · go_simp
      refine hK.out _ _ HXd.out (fun hHeld => ?_)
      clear hK K
      try aput2
      refine wpAnyH_ready (rs := [4, 8]) (by kernel_rfl) (by simp) ?_
      refine AllReadyH.cons rfl (fun K hK => ?_) (AllReadyH.cons rfl (fun K hK => ?_) AllReadyH.nil)
      · go_simp
        go_at_call 87
        refine (hpa _).mono ?_
        rintro e w2 ⟨A2, c2, rfl, hin2, hb2⟩
        have HX2 := Aside0.mk (blk_below HXd.out hb2.out)
        have HB2 := Aside0.mk (below_step HBd.out hb2.out)
        have HI2 := Aside0.mk (hin2.out.lower (b := w.heap.size) (by have := HBd.out.size; simpa using this))
        clear z0 z1
        have z0 : w2.cell? ⟨w.heap.size, 0, none⟩ = some (.string a0) := (blk_cell HX2.out 0).trans rfl
        have z1 : w2.cell? ⟨w.heap.size, 1, none⟩ = some (.string a1) := (blk_cell HX2.out 1).trans rfl
        refine hK.out _ _ HX2.out (fun hHeld => ?_)
        clear hK K
        try aput2
        refine wpAnyH_ready (rs := [8]) (by kernel_rfl) (by simp) ?_
        refine AllReadyH.cons rfl (fun K hK => ?_) AllReadyH.nil
        go_simp
        refine hK.out _ _ HX2.out (fun hHeld => ?_)
        clear hK K
        try aput2
        refine wpAnyH_ready (rs := [9]) (by kernel_rfl) (by simp) ?_
        refine AllReadyH.cons rfl (fun K hK => ?_) AllReadyH.nil
        go_simp
        go_at_call 87
        refine (hpb _).mono ?_
        rintro e w4 ⟨A4, c4, rfl, hin4, hb4⟩
        have HX4 := Aside0.mk (blk_below HX2.out hb4.out)
        have HB4 := Aside0.mk (below_step HB2.out hb4.out)
        have HI4 := Aside0.mk (hin4.out.lower (b := w.heap.size) (by have := HB2.out.size; simpa using this))
        have HJ4 := Aside0.mk (HI2.out.below hb4.out)
        clear z0 z1
        have z0 : w4.cell? ⟨w.heap.size, 0, none⟩ = some (.string a0) := (blk_cell HX4.out 0).trans rfl
        have z1 : w4.cell? ⟨w.heap.size, 1, none⟩ = some (.string a1) := (blk_cell HX4.out 1).trans rfl
        refine hK.out _ _ HX4.out (fun hHeld => ?_)
        clear hK K
        try aput2
        refine wpAnyH_ready (rs := [10]) (by kernel_rfl) (by simp) ?_
        refine AllReadyH.cons rfl (fun K hK => ?_) AllReadyH.nil
        go_simp
        refine hK.out _ _ (blk_alloc HX4.out _) (fun hHeld => ?_)
        clear hK K
        try aput2
        refine wpAnyH_ready (rs := [11]) (by kernel_rfl) (by simp) ?_
        refine AllReadyH.cons rfl (fun K hK => ?_) AllReadyH.nil
        go_simp
        have hsz := HB4.out.size
        have hj := long_joined.at_ w.heap.size w4.heap.size [(A2, c2, x), (A4, c4, y)] (w4.alloc (.cells #[.slice A2 x.length c2, .slice A4 y.length c4] 23)) (heap_alloc_new w4 _) (by
          intro z hz
          simp only [List.mem_cons, List.not_mem_nil, or_false] at hz
          rcases hz with rfl | rfl
          · exact HJ4.out.below (below_alloc (Below.refl _ _) _)
          · exact HI4.out.below (below_alloc (Below.refl _ _) _)) (by simp [totalL]; omega) (by simp) (by simp; omega)
        have hfl : flatL [(A2, c2, x), (A4, c4, y)] = x ++ y := by simp [flatL]
        rw [hfl] at hj
        go_at_call 89
        refine hj.mono ?_
        rintro e wz ⟨v, rfl, hR, hbz⟩
        have HBZ := Aside0.mk (below_step (below_alloc HB4.out _) hbz)
        have HRZ := Aside0.mk hR
        refine hK.out _ _ (blk_below (blk_alloc HX4.out _) hbz) (fun hHeld => ?_)
        clear hK K hj hR hbz
        try aput2
        refine wpAnyH_take (i := 12) (v := ?_) rfl (by kernel_rfl) (by kernel_rfl) (by kernel_rfl) (fun _ _ _ h => h) (Or.inl ⟨by rfl, ?_⟩) (by assumption) ?_
        rotate_left
        · intro w hSw
          try dsimp only at hSw
          go_simp
          try with_reducible rfl
        try aput2
        refine wpAnyH_done (by kernel_rfl) ?_ _
        simp only [List.getElem_toArray, List.getElem_cons_succ, List.getElem_cons_zero, List.set_cons_zero, List.set_cons_succ]
        go_wp2
        go_meet
        case rel => exact ⟨HRZ, HBZ⟩
      · go_simp
        refine hK.out _ _ HXd.out (fun hHeld => ?_)
        clear hK K
        try aput2
        refine wpAnyH_ready (rs := [4]) (by kernel_rfl) (by simp) ?_
        refine AllReadyH.cons rfl (fun K hK => ?_) AllReadyH.nil
        go_simp
        go_at_call 87
        refine (hpa _).mono ?_
        rintro e w6 ⟨A6, c6, rfl, hin6, hb6⟩
        have HX6 := Aside0.mk (blk_below HXd.out hb6.out)
        have HB6 := Aside0.mk (below_step HBd.out hb6.out)
        have HI6 := Aside0.mk (hin6.out.lower (b := w.heap.size) (by have := HBd.out.size; simpa using this))
        clear z0 z1
        have z0 : w6.cell? ⟨w.heap.size, 0, none⟩ = some (.string a0) := (blk_cell HX6.out 0).trans rfl
        have z1 : w6.cell? ⟨w.heap.size, 1, none⟩ = some (.string a1) := (blk_cell HX6.out 1).trans rfl
        refine hK.out _ _ HX6.out (fun hHeld => ?_)
        clear hK K
        try aput2
        refine wpAnyH_ready (rs := [9]) (by kernel_rfl) (by simp) ?_
        refine AllReadyH.cons rfl (fun K hK => ?_) AllReadyH.nil
        go_simp
        go_at_call 87
        refine (hpb _).mono ?_
        rintro e w7 ⟨A7, c7, rfl, hin7, hb7⟩
        have HX7 := Aside0.mk (blk_below HX6.out hb7.out)
        have HB7 := Aside0.mk (below_step HB6.out hb7.out)
        have HI7 := Aside0.mk (hin7.out.lower (b := w.heap.size) (by have := HB6.out.size; simpa using this))
        have HJ7 := Aside0.mk (HI6.out.below hb7.out)
        clear z0 z1
        have z0 : w7.cell? ⟨w.heap.size, 0, none⟩ = some (.string a0) := (blk_cell HX7.out 0).trans rfl
        have z1 : w7.cell? ⟨w.heap.size, 1, none⟩ = some (.string a1) := (blk_cell HX7.out 1).trans rfl
        refine hK.out _ _ HX7.out (fun hHeld => ?_)
        clear hK K
        try aput2
        refine wpAnyH_ready (rs := [10]) (by kernel_rfl) (by simp) ?_
        refine AllReadyH.cons rfl (fun K hK => ?_) AllReadyH.nil
        go_simp
        refine hK.out _ _ (blk_alloc HX7.out _) (fun hHeld => ?_)
        clear hK K
        try aput2
        refine wpAnyH_ready (rs := [11]) (by kernel_rfl) (by simp) ?_
        refine AllReadyH.cons rfl (fun K hK => ?_) AllReadyH.nil
        go_simp
        have hsz := HB7.out.size
        have hj := long_joined.at_ w.heap.size w7.heap.size [(A6, c6, x), (A7, c7, y)] (w7.alloc (.cells #[.slice A6 x.length c6, .slice A7 y.length c7] 23)) (heap_alloc_new w7 _) (by
          intro z hz
          simp only [List.mem_cons, List.not_mem_nil, or_false] at hz
          rcases hz with rfl | rfl
          · exact HJ7.out.below (below_alloc (Below.refl _ _) _)
          · exact HI7.out.below (below_alloc (Below.refl _ _) _)) (by simp [totalL]; omega) (by simp) (by simp; omega)
        have hfl : flatL [(A6, c6, x), (A7, c7, y)] = x ++ y := by simp [flatL]
        rw [hfl] at hj
        go_at_call 89
        refine hj.mono ?_
        rintro e wz ⟨v, rfl, hR, hbz⟩
        have HBZ := Aside0.mk (below_step (below_alloc HB7.out _) hbz)
        have HRZ := Aside0.mk hR
        refine hK.out _ _ (blk_below (blk_alloc HX7.out _) hbz) (fun hHeld => ?_)
        clear hK K hj hR hbz
        try aput2
        refine wpAnyH_take (i := 12) (v := ?_) rfl (by kernel_rfl) (by kernel_rfl) (by kernel_rfl) (fun _ _ _ h => h) (Or.inl ⟨by rfl, ?_⟩) (by assumption) ?_
        rotate_left
        · intro w hSw
          try dsimp only at hSw
          go_simp
          try with_reducible rfl
        try aput2
        refine wpAnyH_done (by kernel_rfl) ?_ _
        simp only [List.getElem_toArray, List.getElem_cons_succ, List.getElem_cons_zero, List.set_cons_zero, List.set_cons_succ]
        go_wp2
        go_meet
        case rel => exact ⟨HRZ, HBZ⟩
    · go_simp
      refine hK.out _ _ HXd.out (fun hHeld => ?_)
      clear hK K
      try aput2
      refine wpAnyH_ready (rs := [3]) (by kernel_rfl) (by simp) ?_
      refine AllReadyH.cons rfl (fun K hK => ?_) AllReadyH.nil
      go_simp
      refine hK.out _ _ HXd.out (fun hHeld => ?_)
      clear hK K
      try aput2
      refine wpAnyH_ready (rs := [4]) (by kernel_rfl) (by simp) ?_
      refine AllReadyH.cons rfl (fun K hK => ?_) AllReadyH.nil
      go_simp
      go_at_call 87
      refine (hpa _).mono ?_
      rintro e w10 ⟨A10, c10, rfl, hin10, hb10⟩
      have HX10 := Aside0.mk (blk_below HXd.out hb10.out)
      have HB10 := Aside0.mk (below_step HBd.out hb10.out)
      have HI10 := Aside0.mk (hin10.out.lower (b := w.heap.size) (by have := HBd.out.size; simpa using this))
      clear z0 z1
      have z0 : w10.cell? ⟨w.heap.size, 0, none⟩ = some (.string a0) := (blk_cell HX10.out 0).trans rfl
      have z1 : w10.cell? ⟨w.heap.size, 1, none⟩ = some (.string a1) := (blk_cell HX10.out 1).trans rfl
      refine hK.out _ _ HX10.out (fun hHeld => ?_)
      clear hK K
      try aput2
      refine wpAnyH_ready (rs := [9]) (by kernel_rfl) (by simp) ?_
      refine AllReadyH.cons rfl (fun K hK => ?_) AllReadyH.nil
      go_simp
      go_at_call 87
      refine (hpb _).mono ?_
      rintro e w11 ⟨A11, c11, rfl, hin11, hb11⟩
      have HX11 := Aside0.mk (blk_below HX10.out hb11.out)
      have HB11 := Aside0.mk (below_step HB10.out hb11.out)
      have HI11 := Aside0.mk (hin11.out.lower (b := w.heap.size) (by have := HB10.out.size; simpa using this))
      have HJ11 := Aside0.mk (HI10.out.below hb11.out)
      clear z0 z1
      have z0 : w11.cell? ⟨w.heap.size, 0, none⟩ = some (.string a0) := (blk_cell HX11.out 0).trans rfl
      have z1 : w11.cell? ⟨w.heap.size, 1, none⟩ = some (.string a1) := (blk_cell HX11.out 1).trans rfl
      refine hK.out _ _ HX11.out (fun hHeld => ?_)
      clear hK K
      try aput2
      refine wpAnyH_ready (rs := [10]) (by kernel_rfl) (by simp) ?_
      refine AllReadyH.cons rfl (fun K hK => ?_) AllReadyH.nil
      go_simp
      refine hK.out _ _ (blk_alloc HX11.out _) (fun hHeld => ?_)
      clear hK K
      try aput2
      refine wpAnyH_ready (rs := [11]) (by kernel_rfl) (by simp) ?_
      refine AllReadyH.cons rfl (fun K hK => ?_) AllReadyH.nil
      go_simp
      have hsz := HB11.out.size
      have hj := long_joined.at_ w.heap.size w11.heap.size [(A10, c10, x), (A11, c11, y)] (w11.alloc (.cells #[.slice A10 x.length c10, .slice A11 y.length c11] 23)) (heap_alloc_new w11 _) (by
        intro z hz
        simp only [List.mem_cons, List.not_mem_nil, or_false] at hz
        rcases hz with rfl | rfl
        · exact HJ11.out.below (below_alloc (Below.refl _ _) _)
        · exact HI11.out.below (below_alloc (Below.refl _ _) _)) (by simp [totalL]; omega) (by simp) (by simp; omega)
      have hfl : flatL [(A10, c10, x), (A11, c11, y)] = x ++ y := by simp [flatL]
      rw [hfl] at hj
      go_at_call 89
      refine hj.mono ?_
      rintro e wz ⟨v, rfl, hR, hbz⟩
      have HBZ := Aside0.mk (below_step (below_alloc HB11.out _) hbz)
      have HRZ := Aside0.mk hR
      refine hK.out _ _ (blk_below (blk_alloc HX11.out _) hbz) (fun hHeld => ?_)
      clear hK K hj hR hbz
      try aput2
      refine wpAnyH_take (i := 12) (v := ?_) rfl (by kernel_rfl) (by kernel_rfl) (by kernel_rfl) (fun _ _ _ h => h) (Or.inl ⟨by rfl, ?_⟩) (by assumption) ?_
      rotate_left
      · intro w hSw
        try dsimp only at hSw
        go_simp
        try with_reducible rfl
      try aput2
      refine wpAnyH_done (by kernel_rfl) ?_ _
      simp only [List.getElem_toArray, List.getElem_cons_succ, List.getElem_cons_zero, List.set_cons_zero, List.set_cons_succ]
      go_wp2
      go_meet
      case rel => exact ⟨HRZ, HBZ⟩
  case rest =>
    obtain ⟨HR, HB⟩ := hcut
    go_wp2
    go_ret
    exact ⟨_, rfl, HR.out, HB.out⟩
end
end Go.Proofs.YtpedagpcblnnhaaGreat.X
