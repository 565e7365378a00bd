import Derived.Test.YtddjnicmpgbcgaaXK
import Derived.Test.YtddjnicmpgbcgaaXGslices
import Derived.Test.YtddjnicmpgbcgaaXlongNeeds
import Derived.Test.YtddjnicmpgbcgaaXlongPut
import Derived.Test.YtddjnicmpgbcgaaYConv
import Derived.Test.YtddjnicmpgbcgaaYCopy
import Derived.Test.YtddjnicmpgbcgaaYIter
import Derived.Deep.DeepCutAuto
import Derived.Deep.RegionHeld3
import Derived.Laws.EntriesVeiled
import Derived.WalkSpells
namespace Go.Proofs.Ytddjnicmpgbcgaa.X
open Go.RowKit Go.Proofs.YtddjnicmpgbcgaaW.PrintWords Go.Proofs.YtddjnicmpgbcgaaW.PrintLast Go.Proofs.YtddjnicmpgbcgaaW.PrintMore
attribute [local go_sem] max2_int min2_int max_two min_two max_three min_three max_four min_four
set_option linter.unusedVariables false
set_option linter.unusedSimpArgs false

open Go.Proofs.YtddjnicmpgbcgaaY
def aheadF (is : Bool) (kind : Int) (s : ByteArray) : Option (List (List Int)) := if is = true then (long_Put.f kind s).map (·.1) else some []
set_option maxHeartbeats 1600000 in
set_option maxRecDepth 100000 in
theorem long_put.at_ (is : Bool) (kind : Int) (s : ByteArray) (r : List (List Int)) (w : World) (h : aheadF is kind s = some r) :
    Calls Try.prog 70 #[.bool is, .int .u8 kind, .string s] w fun e w' => ∃ A c, e = .returned (.slice A r.length c) ∧ Aside0 (InRow w.heap.size w' (A, c, r)) ∧ Aside0 (Below w.heap.size w w') := by
  unfold aheadF at h
  cases is with
  | false =>
    rw [if_neg (by decide)] at h
    obtain rfl := Option.some.inj h
    go_enter Try.func70, Try.ntmps70
    go_wp2
    go_ret
    obtain ⟨A, c, hv, hin⟩ := InRow.of_R (Kd.R_nil kRow 50 w w.heap.size (fun _ => True)) (Nat.le_refl _)
    injection hv with e1 e2 e3
    subst e1 e3
    exact ⟨none, 0, rfl, ⟨hin⟩, ⟨Below.refl _ _⟩⟩
  | true =>
    rw [if_pos rfl] at h
    obtain ⟨⟨r1, r2⟩, hp, h⟩ := Option.map_eq_some_iff.1 h
    simp only at h
    subst h
    have hput := fun W => long_Put.calls kind s r1 r2 W hp
    clear hp
    go_enter Try.func70, Try.ntmps70
    go_wp2_with (first | (go_at_call 31; refine (hput _).mono ?_; rintro e w1 ⟨v, rfl, hR, hB⟩; have HR := Aside0.mk hR; have HB := Aside0.mk hB; clear hR hB))
    go_ret
    obtain ⟨A, c, rfl, hin⟩ := InRow.of_R HR.out (Nat.le_refl _)
    exact ⟨A, c, rfl, ⟨hin⟩, HB⟩
set_option maxHeartbeats 1600000 in
theorem long_joined.at_ (base b : Nat) (xs : List (Option Addr × Nat × List (List Int))) (w : World) (hb : w.heap[b]? = some (.cells (xs.map inV).toArray 39 (0, 0))) (hxs : ∀ x ∈ xs, InRow base w x) (hl : totalL xs ≤ 100000) (hn : xs.length ≤ 1000) (hbase : base ≤ w.heap.size) :
    Calls Try.prog 71 #[.slice (some ⟨b, 0, none⟩) xs.length xs.length] w fun e w' => ∃ v, e = .returned v ∧ Kd.R kRow 50 w' base (fun _ => True) v (flatL xs) ∧ Below w.heap.size w w' := by
  have hcat := slices_Concat.at_ base b xs w hb hxs hl hn hbase
  clear hb hxs
  go_enter Try.func71, Try.ntmps71
  go_wp2_with (first | (go_at_call 63; refine hcat.mono ?_; rintro e w1 ⟨v, rfl, hR, hB⟩))
  go_ret
  exact ⟨v, rfl, hR, hB⟩
theorem InRow.lower {base b : Nat} {w : World} {x : Option Addr × Nat × List (List Int)} (h : InRow base w x) (hb : b ≤ base) : InRow b w x :=
  ⟨h.cap, h.row.imp_ (Below.refl _ _) (fun _ _ hp => kRow.M_lower hb (kRow.M_mono (fun _ _ => trivial) hp))⟩
def long_Ahead.f (a0 a1 : ByteArray) (a2 a3 a4 a5 a6 : Int) (a7 : ByteArray) : Option (List (List Int)) :=
  (long_Needs.f a0 a1 a2 a3 a4 a5 a6 a7).bind fun q => (aheadF q.2 75 a1).bind fun x => (aheadF q.1 76 a0).bind fun y => if x.length + y.length ≤ 100000 then some (x ++ y) else none
set_option maxHeartbeats 3200000 in
set_option maxRecDepth 100000 in
theorem long_Ahead.calls (a0 a1 : ByteArray) (a2 a3 a4 a5 a6 : Int) (a7 : ByteArray) (r : List (List Int)) (w : World) (h : long_Ahead.f a0 a1 a2 a3 a4 a5 a6 a7 = some r) :
    Calls Try.prog 38 #[.agg #[.string a0, .string a1, .int .u8 a2, .int .i64 a3, .int .i64 a4, .int .i64 a5, .int .i64 a6, .string a7]] w fun e w' => ∃ v0_ : Value, e = .returned v0_ ∧ Kd.R kRow 50 w' w.heap.size (fun _ => True) v0_ r ∧ Below w.heap.size w w' := by
  unfold long_Ahead.f at h
  replace h := Option.bind_eq_some_iff.1 h
  obtain ⟨⟨q1, q2⟩, A1, h⟩ := h
  simp only at h
  replace h := Option.bind_eq_some_iff.1 h
  obtain ⟨x, A2, h⟩ := h
  replace h := Option.bind_eq_some_iff.1 h
  obtain ⟨y, A3, h⟩ := h
  have hlen : x.length + y.length ≤ 100000 := by
    rcases Nat.lt_or_ge 100000 (x.length + y.length) with h0 | h0
    · rw [if_neg (by omega)] at h; cases h
    · exact h0
  rw [if_pos hlen] at h
  obtain rfl := Option.some.inj h
  have hne := fun W => long_Needs.calls a0 a1 a2 a3 a4 a5 a6 a7 q1 q2 W A1
  have hpa := fun W => long_put.at_ q2 75 a1 x W A2
  have hpb := fun W => long_put.at_ q1 76 a0 y W A3
  have HB := Aside0.mk (below_alloc (Below.refl w.heap.size w) (.cells #[.string a0, .string a1, .int .u8 a2, .int .i64 a3, .int .i64 a4, .int .i64 a5, .int .i64 a6, .string a7] 23))
  have HX := Aside0.mk (heap_alloc_new w (.cells #[.string a0, .string a1, .int .u8 a2, .int .i64 a3, .int .i64 a4, .int .i64 a5, .int .i64 a6, .string a7] 23))
  clear A1 A2 A3 h
  go_enter Try.func38, Try.ntmps38
  go_upto_region 3 with (first | (go_at_call 33; refine (hne _).mono ?_; rintro e w1 ⟨rfl, hb⟩; have HB1 := Aside0.mk (below_step HB.out hb); have HX1 := Aside0.mk (blk_below HX.out hb); clear hb))
  clear hne HB HX
  go_cut [2] (fun v2 wc => Aside0 (Kd.R kRow 50 wc w.heap.size (fun _ => True) v2 (x ++ y)) ∧ Aside0 (Below w.heap.size w wc))
  case first =>
    have HXd := Aside0.mk (blk_drew HX1.out)
    have HBd := Aside0.mk (below_drew HB1.out)
    have z0 : w1.cell? ⟨w.heap.size, 0, none⟩ = some (.string a0) := (blk_cell HX1.out 0).trans rfl
    have z1 : w1.cell? ⟨w.heap.size, 1, none⟩ = some (.string a1) := (blk_cell HX1.out 1).trans rfl
    refine wp_region_held_drew (S := fun w' => w'.heap[w.heap.size]? = some (.cells #[.string a0, .string a1, .int .u8 a2, .int .i64 a3, .int .i64 a4, .int .i64 a5, .int .i64 a6, .string a7] 23)) (by kernel_rfl) HX1.out (fun hHeld => ?_)
    refine wpAnyH_take (i := 0) (v := ?_) rfl (by kernel_rfl) (by kernel_rfl) (by kernel_rfl) (fun _ _ _ h => h) (Or.inl ⟨by rfl, ?_⟩) (by assumption) ?_
    rotate_left
    · intro w hSw
      try dsimp only at hSw
      go_simp
      try with_reducible rfl
    try simp only [Act.put, List.setIfInBounds_toArray, List.set_cons_zero, List.set_cons_succ]
    refine wpAnyH_take (i := 1) (v := ?_) rfl (by kernel_rfl) (by kernel_rfl) (by kernel_rfl) (fun _ _ _ h => h) (Or.inl ⟨by rfl, ?_⟩) (by assumption) ?_
    rotate_left
    · intro w hSw
      try dsimp only at hSw
      go_simp
      try with_reducible rfl
    try simp only [Act.put, List.setIfInBounds_toArray, List.set_cons_zero, List.set_cons_succ]
    refine wpAnyH_take (i := 2) (v := ?_) rfl (by kernel_rfl) (by kernel_rfl) (by kernel_rfl) (fun _ _ _ h => h) (Or.inl ⟨by rfl, ?_⟩) (by assumption) ?_
    rotate_left
    · intro w hSw
      try dsimp only at hSw
      go_simp
      try with_reducible rfl
    try simp only [Act.put, List.setIfInBounds_toArray, List.set_cons_zero, List.set_cons_succ]
    refine wpAnyH_take (i := 5) (v := ?_) rfl (by kernel_rfl) (by kernel_rfl) (by kernel_rfl) (fun _ _ _ h => h) (Or.inl ⟨by rfl, ?_⟩) (by assumption) ?_
    rotate_left
    · intro w hSw
      try dsimp only at hSw
      go_simp
      try with_reducible rfl
    try simp only [Act.put, List.setIfInBounds_toArray, List.set_cons_zero, List.set_cons_succ]
    refine wpAnyH_take (i := 6) (v := ?_) rfl (by kernel_rfl) (by kernel_rfl) (by kernel_rfl) (fun _ _ _ h => h) (Or.inl ⟨by rfl, ?_⟩) (by assumption) ?_
    rotate_left
    · intro w hSw
      try dsimp only at hSw
      go_simp
      try with_reducible rfl
    try simp only [Act.put, List.setIfInBounds_toArray, List.set_cons_zero, List.set_cons_succ]
    refine wpAnyH_take (i := 7) (v := ?_) rfl (by kernel_rfl) (by kernel_rfl) (by kernel_rfl) (fun _ _ _ h => h) (Or.inl ⟨by rfl, ?_⟩) (by assumption) ?_
    rotate_left
    · intro w hSw
      try dsimp only at hSw
      go_simp
      try with_reducible rfl
    try simp only [Act.put, List.setIfInBounds_toArray, List.set_cons_zero, List.set_cons_succ]
    try simp only [Act.put, List.setIfInBounds_toArray, List.set_cons_zero, List.set_cons_succ]
    refine wpAnyH_ready (rs := [3, 8]) (by kernel_rfl) (by simp) ?_
    refine AllReadyH.cons rfl (fun K hK => ?_) (AllReadyH.cons rfl (fun K hK => ?_) AllReadyH.nil)
    · go_simp
      refine hK.out _ _ HXd.out (fun hHeld => ?_)
      clear hK K
      try simp only [Act.put, List.setIfInBounds_toArray, List.set_cons_zero, List.set_cons_succ]
      refine wpAnyH_ready (rs := [4, 8]) (by kernel_rfl) (by simp) ?_
      refine AllReadyH.cons rfl (fun K hK => ?_) (AllReadyH.cons rfl (fun K hK => ?_) AllReadyH.nil)
      · go_simp
        go_at_call 70
        refine (hpa _).mono ?_
        rintro e w2 ⟨A2, c2, rfl, hin2, hb2⟩
        have HX2 := Aside0.mk (blk_below HXd.out hb2.out)
        have HB2 := Aside0.mk (below_step HBd.out hb2.out)
        have HI2 := Aside0.mk (hin2.out.lower (b := w.heap.size) (by have := HBd.out.size; simpa using this))
        clear z0 z1
        have z0 : w2.cell? ⟨w.heap.size, 0, none⟩ = some (.string a0) := (blk_cell HX2.out 0).trans rfl
        have z1 : w2.cell? ⟨w.heap.size, 1, none⟩ = some (.string a1) := (blk_cell HX2.out 1).trans rfl
        refine hK.out _ _ HX2.out (fun hHeld => ?_)
        clear hK K
        try simp only [Act.put, List.setIfInBounds_toArray, List.set_cons_zero, List.set_cons_succ]
        refine wpAnyH_ready (rs := [8]) (by kernel_rfl) (by simp) ?_
        refine AllReadyH.cons rfl (fun K hK => ?_) AllReadyH.nil
        go_simp
        refine hK.out _ _ HX2.out (fun hHeld => ?_)
        clear hK K
        try simp only [Act.put, List.setIfInBounds_toArray, List.set_cons_zero, List.set_cons_succ]
        refine wpAnyH_ready (rs := [9]) (by kernel_rfl) (by simp) ?_
        refine AllReadyH.cons rfl (fun K hK => ?_) AllReadyH.nil
        go_simp
        go_at_call 70
        refine (hpb _).mono ?_
        rintro e w4 ⟨A4, c4, rfl, hin4, hb4⟩
        have HX4 := Aside0.mk (blk_below HX2.out hb4.out)
        have HB4 := Aside0.mk (below_step HB2.out hb4.out)
        have HI4 := Aside0.mk (hin4.out.lower (b := w.heap.size) (by have := HB2.out.size; simpa using this))
        have HJ4 := Aside0.mk (HI2.out.below hb4.out)
        clear z0 z1
        have z0 : w4.cell? ⟨w.heap.size, 0, none⟩ = some (.string a0) := (blk_cell HX4.out 0).trans rfl
        have z1 : w4.cell? ⟨w.heap.size, 1, none⟩ = some (.string a1) := (blk_cell HX4.out 1).trans rfl
        refine hK.out _ _ HX4.out (fun hHeld => ?_)
        clear hK K
        try simp only [Act.put, List.setIfInBounds_toArray, List.set_cons_zero, List.set_cons_succ]
        refine wpAnyH_ready (rs := [10]) (by kernel_rfl) (by simp) ?_
        refine AllReadyH.cons rfl (fun K hK => ?_) AllReadyH.nil
        go_simp
        refine hK.out _ _ (blk_alloc HX4.out _) (fun hHeld => ?_)
        clear hK K
        try simp only [Act.put, List.setIfInBounds_toArray, List.set_cons_zero, List.set_cons_succ]
        refine wpAnyH_ready (rs := [11]) (by kernel_rfl) (by simp) ?_
        refine AllReadyH.cons rfl (fun K hK => ?_) AllReadyH.nil
        go_simp
        have hsz := HB4.out.size
        have hj := long_joined.at_ w.heap.size w4.heap.size [(A2, c2, x), (A4, c4, y)] (w4.alloc (.cells #[.slice A2 x.length c2, .slice A4 y.length c4] 39)) (heap_alloc_new w4 _) (by
          intro z hz
          simp only [List.mem_cons, List.not_mem_nil, or_false] at hz
          rcases hz with rfl | rfl
          · exact HJ4.out.below (below_alloc (Below.refl _ _) _)
          · exact HI4.out.below (below_alloc (Below.refl _ _) _)) (by simp [totalL]; omega) (by simp) (by simp; omega)
        have hfl : flatL [(A2, c2, x), (A4, c4, y)] = x ++ y := by simp [flatL]
        rw [hfl] at hj
        go_at_call 71
        refine hj.mono ?_
        rintro e wz ⟨v, rfl, hR, hbz⟩
        have HBZ := Aside0.mk (below_step (below_alloc HB4.out _) hbz)
        have HRZ := Aside0.mk hR
        refine hK.out _ _ (blk_below (blk_alloc HX4.out _) hbz) (fun hHeld => ?_)
        clear hK K hj hR hbz
        try simp only [Act.put, List.setIfInBounds_toArray, List.set_cons_zero, List.set_cons_succ]
        refine wpAnyH_take (i := 12) (v := ?_) rfl (by kernel_rfl) (by kernel_rfl) (by kernel_rfl) (fun _ _ _ h => h) (Or.inl ⟨by rfl, ?_⟩) (by assumption) ?_
        rotate_left
        · intro w hSw
          try dsimp only at hSw
          go_simp
          try with_reducible rfl
        try simp only [Act.put, List.setIfInBounds_toArray, List.set_cons_zero, List.set_cons_succ]
        refine wpAnyH_done (by kernel_rfl) ?_ _
        simp only [List.getElem_toArray, List.getElem_cons_succ, List.getElem_cons_zero, List.set_cons_zero, List.set_cons_succ]
        go_wp2
        go_meet
        case rel => exact ⟨HRZ, HBZ⟩
      · go_simp
        refine hK.out _ _ HXd.out (fun hHeld => ?_)
        clear hK K
        try simp only [Act.put, List.setIfInBounds_toArray, List.set_cons_zero, List.set_cons_succ]
        refine wpAnyH_ready (rs := [4]) (by kernel_rfl) (by simp) ?_
        refine AllReadyH.cons rfl (fun K hK => ?_) AllReadyH.nil
        go_simp
        go_at_call 70
        refine (hpa _).mono ?_
        rintro e w6 ⟨A6, c6, rfl, hin6, hb6⟩
        have HX6 := Aside0.mk (blk_below HXd.out hb6.out)
        have HB6 := Aside0.mk (below_step HBd.out hb6.out)
        have HI6 := Aside0.mk (hin6.out.lower (b := w.heap.size) (by have := HBd.out.size; simpa using this))
        clear z0 z1
        have z0 : w6.cell? ⟨w.heap.size, 0, none⟩ = some (.string a0) := (blk_cell HX6.out 0).trans rfl
        have z1 : w6.cell? ⟨w.heap.size, 1, none⟩ = some (.string a1) := (blk_cell HX6.out 1).trans rfl
        refine hK.out _ _ HX6.out (fun hHeld => ?_)
        clear hK K
        try simp only [Act.put, List.setIfInBounds_toArray, List.set_cons_zero, List.set_cons_succ]
        refine wpAnyH_ready (rs := [9]) (by kernel_rfl) (by simp) ?_
        refine AllReadyH.cons rfl (fun K hK => ?_) AllReadyH.nil
        go_simp
        go_at_call 70
        refine (hpb _).mono ?_
        rintro e w7 ⟨A7, c7, rfl, hin7, hb7⟩
        have HX7 := Aside0.mk (blk_below HX6.out hb7.out)
        have HB7 := Aside0.mk (below_step HB6.out hb7.out)
        have HI7 := Aside0.mk (hin7.out.lower (b := w.heap.size) (by have := HB6.out.size; simpa using this))
        have HJ7 := Aside0.mk (HI6.out.below hb7.out)
        clear z0 z1
        have z0 : w7.cell? ⟨w.heap.size, 0, none⟩ = some (.string a0) := (blk_cell HX7.out 0).trans rfl
        have z1 : w7.cell? ⟨w.heap.size, 1, none⟩ = some (.string a1) := (blk_cell HX7.out 1).trans rfl
        refine hK.out _ _ HX7.out (fun hHeld => ?_)
        clear hK K
        try simp only [Act.put, List.setIfInBounds_toArray, List.set_cons_zero, List.set_cons_succ]
        refine wpAnyH_ready (rs := [10]) (by kernel_rfl) (by simp) ?_
        refine AllReadyH.cons rfl (fun K hK => ?_) AllReadyH.nil
        go_simp
        refine hK.out _ _ (blk_alloc HX7.out _) (fun hHeld => ?_)
        clear hK K
        try simp only [Act.put, List.setIfInBounds_toArray, List.set_cons_zero, List.set_cons_succ]
        refine wpAnyH_ready (rs := [11]) (by kernel_rfl) (by simp) ?_
        refine AllReadyH.cons rfl (fun K hK => ?_) AllReadyH.nil
        go_simp
        have hsz := HB7.out.size
        have hj := long_joined.at_ w.heap.size w7.heap.size [(A6, c6, x), (A7, c7, y)] (w7.alloc (.cells #[.slice A6 x.length c6, .slice A7 y.length c7] 39)) (heap_alloc_new w7 _) (by
          intro z hz
          simp only [List.mem_cons, List.not_mem_nil, or_false] at hz
          rcases hz with rfl | rfl
          · exact HJ7.out.below (below_alloc (Below.refl _ _) _)
          · exact HI7.out.below (below_alloc (Below.refl _ _) _)) (by simp [totalL]; omega) (by simp) (by simp; omega)
        have hfl : flatL [(A6, c6, x), (A7, c7, y)] = x ++ y := by simp [flatL]
        rw [hfl] at hj
        go_at_call 71
        refine hj.mono ?_
        rintro e wz ⟨v, rfl, hR, hbz⟩
        have HBZ := Aside0.mk (below_step (below_alloc HB7.out _) hbz)
        have HRZ := Aside0.mk hR
        refine hK.out _ _ (blk_below (blk_alloc HX7.out _) hbz) (fun hHeld => ?_)
        clear hK K hj hR hbz
        try simp only [Act.put, List.setIfInBounds_toArray, List.set_cons_zero, List.set_cons_succ]
        refine wpAnyH_take (i := 12) (v := ?_) rfl (by kernel_rfl) (by kernel_rfl) (by kernel_rfl) (fun _ _ _ h => h) (Or.inl ⟨by rfl, ?_⟩) (by assumption) ?_
        rotate_left
        · intro w hSw
          try dsimp only at hSw
          go_simp
          try with_reducible rfl
        try simp only [Act.put, List.setIfInBounds_toArray, List.set_cons_zero, List.set_cons_succ]
        refine wpAnyH_done (by kernel_rfl) ?_ _
        simp only [List.getElem_toArray, List.getElem_cons_succ, List.getElem_cons_zero, List.set_cons_zero, List.set_cons_succ]
        go_wp2
        go_meet
        case rel => exact ⟨HRZ, HBZ⟩
    · go_simp
      refine hK.out _ _ HXd.out (fun hHeld => ?_)
      clear hK K
      try simp only [Act.put, List.setIfInBounds_toArray, List.set_cons_zero, List.set_cons_succ]
      refine wpAnyH_ready (rs := [3]) (by kernel_rfl) (by simp) ?_
      refine AllReadyH.cons rfl (fun K hK => ?_) AllReadyH.nil
      go_simp
      refine hK.out _ _ HXd.out (fun hHeld => ?_)
      clear hK K
      try simp only [Act.put, List.setIfInBounds_toArray, List.set_cons_zero, List.set_cons_succ]
      refine wpAnyH_ready (rs := [4]) (by kernel_rfl) (by simp) ?_
      refine AllReadyH.cons rfl (fun K hK => ?_) AllReadyH.nil
      go_simp
      go_at_call 70
      refine (hpa _).mono ?_
      rintro e w10 ⟨A10, c10, rfl, hin10, hb10⟩
      have HX10 := Aside0.mk (blk_below HXd.out hb10.out)
      have HB10 := Aside0.mk (below_step HBd.out hb10.out)
      have HI10 := Aside0.mk (hin10.out.lower (b := w.heap.size) (by have := HBd.out.size; simpa using this))
      clear z0 z1
      have z0 : w10.cell? ⟨w.heap.size, 0, none⟩ = some (.string a0) := (blk_cell HX10.out 0).trans rfl
      have z1 : w10.cell? ⟨w.heap.size, 1, none⟩ = some (.string a1) := (blk_cell HX10.out 1).trans rfl
      refine hK.out _ _ HX10.out (fun hHeld => ?_)
      clear hK K
      try simp only [Act.put, List.setIfInBounds_toArray, List.set_cons_zero, List.set_cons_succ]
      refine wpAnyH_ready (rs := [9]) (by kernel_rfl) (by simp) ?_
      refine AllReadyH.cons rfl (fun K hK => ?_) AllReadyH.nil
      go_simp
      go_at_call 70
      refine (hpb _).mono ?_
      rintro e w11 ⟨A11, c11, rfl, hin11, hb11⟩
      have HX11 := Aside0.mk (blk_below HX10.out hb11.out)
      have HB11 := Aside0.mk (below_step HB10.out hb11.out)
      have HI11 := Aside0.mk (hin11.out.lower (b := w.heap.size) (by have := HB10.out.size; simpa using this))
      have HJ11 := Aside0.mk (HI10.out.below hb11.out)
      clear z0 z1
      have z0 : w11.cell? ⟨w.heap.size, 0, none⟩ = some (.string a0) := (blk_cell HX11.out 0).trans rfl
      have z1 : w11.cell? ⟨w.heap.size, 1, none⟩ = some (.string a1) := (blk_cell HX11.out 1).trans rfl
      refine hK.out _ _ HX11.out (fun hHeld => ?_)
      clear hK K
      try simp only [Act.put, List.setIfInBounds_toArray, List.set_cons_zero, List.set_cons_succ]
      refine wpAnyH_ready (rs := [10]) (by kernel_rfl) (by simp) ?_
      refine AllReadyH.cons rfl (fun K hK => ?_) AllReadyH.nil
      go_simp
      refine hK.out _ _ (blk_alloc HX11.out _) (fun hHeld => ?_)
      clear hK K
      try simp only [Act.put, List.setIfInBounds_toArray, List.set_cons_zero, List.set_cons_succ]
      refine wpAnyH_ready (rs := [11]) (by kernel_rfl) (by simp) ?_
      refine AllReadyH.cons rfl (fun K hK => ?_) AllReadyH.nil
      go_simp
      have hsz := HB11.out.size
      have hj := long_joined.at_ w.heap.size w11.heap.size [(A10, c10, x), (A11, c11, y)] (w11.alloc (.cells #[.slice A10 x.length c10, .slice A11 y.length c11] 39)) (heap_alloc_new w11 _) (by
        intro z hz
        simp only [List.mem_cons, List.not_mem_nil, or_false] at hz
        rcases hz with rfl | rfl
        · exact HJ11.out.below (below_alloc (Below.refl _ _) _)
        · exact HI11.out.below (below_alloc (Below.refl _ _) _)) (by simp [totalL]; omega) (by simp) (by simp; omega)
      have hfl : flatL [(A10, c10, x), (A11, c11, y)] = x ++ y := by simp [flatL]
      rw [hfl] at hj
      go_at_call 71
      refine hj.mono ?_
      rintro e wz ⟨v, rfl, hR, hbz⟩
      have HBZ := Aside0.mk (below_step (below_alloc HB11.out _) hbz)
      have HRZ := Aside0.mk hR
      refine hK.out _ _ (blk_below (blk_alloc HX11.out _) hbz) (fun hHeld => ?_)
      clear hK K hj hR hbz
      try simp only [Act.put, List.setIfInBounds_toArray, List.set_cons_zero, List.set_cons_succ]
      refine wpAnyH_take (i := 12) (v := ?_) rfl (by kernel_rfl) (by kernel_rfl) (by kernel_rfl) (fun _ _ _ h => h) (Or.inl ⟨by rfl, ?_⟩) (by assumption) ?_
      rotate_left
      · intro w hSw
        try dsimp only at hSw
        go_simp
        try with_reducible rfl
      try simp only [Act.put, List.setIfInBounds_toArray, List.set_cons_zero, List.set_cons_succ]
      refine wpAnyH_done (by kernel_rfl) ?_ _
      simp only [List.getElem_toArray, List.getElem_cons_succ, List.getElem_cons_zero, List.set_cons_zero, List.set_cons_succ]
      go_wp2
      go_meet
      case rel => exact ⟨HRZ, HBZ⟩
  case rest =>
    obtain ⟨HR, HB⟩ := hcut
    go_wp2
    go_ret
    exact ⟨_, rfl, HR.out, HB.out⟩

end Go.Proofs.Ytddjnicmpgbcgaa.X
