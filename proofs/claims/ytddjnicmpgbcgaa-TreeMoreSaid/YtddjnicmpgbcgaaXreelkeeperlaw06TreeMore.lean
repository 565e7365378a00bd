import Derived.Test.YtddjnicmpgbcgaaXK
import Derived.Test.YtddjnicmpgbcgaaXGpath
import Derived.Test.YtddjnicmpgbcgaaXGtree
import Derived.Test.YtddjnicmpgbcgaaXreelkeeperlaw05Few
import Derived.Test.YtddjnicmpgbcgaaXreelkeeperlaw06Few
import Derived.Test.YtddjnicmpgbcgaaXreelkeeperlaw06awake
import Derived.Test.YtddjnicmpgbcgaaYBytes
import Derived.Test.YtddjnicmpgbcgaaYCopy
import Derived.Test.YtddjnicmpgbcgaaYIter
import Derived.Deep.DeepCutAuto
import Derived.Deep.RegionHeld3
import Derived.Laws.Cover1
import Derived.Laws.EntriesVeiled
import Derived.WalkSpells
namespace Go.Proofs.Ytddjnicmpgbcgaa.X
open Go.RowKit Go.Proofs.YtddjnicmpgbcgaaW.PrintWords Go.Proofs.YtddjnicmpgbcgaaW.PrintLast Go.Proofs.YtddjnicmpgbcgaaW.PrintMore
attribute [local go_sem] max2_int min2_int max_two min_two max_three min_three max_four min_four
set_option linter.unusedVariables false
set_option linter.unusedSimpArgs false

open Go.Proofs.YtddjnicmpgbcgaaY
def moreDir (l : List S23) (i : Int) (c : Int) : Bool := decide (i ≥ 0) && (decide (i < (l.length : Int)) && ((rd_T23 l i).f2 == c))
def moreBehind (l : List S23) (s : ByteArray) : Bool := decide (l.length = 0) || Op.bytesLess (rd_T23 l ((l.length : Int) - 1)).f0.toList s.toList
def reelkeeperlaw06_TreeMore.f (k : Nat) (l : List S23) (a0 a1 : ByteArray) (a2 a3 a4 a5 a6 : Int) (a7 : ByteArray) : Option Bool :=
  (reelkeeperlaw06_awake.f k).bind fun up => (reelkeeperlaw06_Few.f k l).bind fun few => (reelkeeperlaw05_Few.f a0 a1 a2 a3 a4 a5 a6 a7).bind fun one => if up = true then (if few = true then (if one = true then
    (tree_May.f k l).bind fun may => if may = true then
      (path_Parent.f k a0).bind fun p => (tree_Find.f l p.1).bind fun i => (tree_Find.f l a1).bind fun j => (tree_May.f k (l ++ [⟨a0, a1, a2, a3, a4, a5, a6, a7⟩])).bind fun more =>
        (tree_One.f a0 a1 a2 a3 a4 a5 a6 a7).bind fun on => if l.length ≤ 1000 then some (more == (decide (l.length < 20) && (on && ((!p.2 || moreDir l i 53) && ((!(a2 == 49) || moreDir l j 48) && moreBehind l a0))))) else none
    else some true else some true) else some true) else none
theorem more_row {W : World} {g : Nat} (n : S23) (h : W.heap[g]? = some (.cells #[.string n.f0, .string n.f1, .int .u8 n.f2, .int .i64 n.f3, .int .i64 n.f4, .int .i64 n.f5, .int .i64 n.f6, .string n.f7] 23)) : Kd.C k23 W (some ⟨g, 0, none⟩) 1 [n] := by
  refine ⟨rfl, by simp, fun _ => ⟨_, rfl, fun j p hp => ?_⟩⟩
  cases j with
  | succ j => simp at hp
  | zero =>
    simp only [List.getElem?_cons_zero, Option.some.injEq] at hp
    subst hp
    refine ⟨[.string n.f0, .string n.f1, .int .u8 n.f2, .int .i64 n.f3, .int .i64 n.f4, .int .i64 n.f5, .int .i64 n.f6, .string n.f7], rfl, ?_, fun i u hu => ?_⟩
    · exact Kd.K_of_M (base := 0) (ok := fun _ => True) k23 (k23_mkM _ 0 (fun _ => True) n)
    · rw [add_plain, blk_cell h]
      rw [← hu]
      simp
structure MoreAt (w0 : World) (A : Option Addr) (l : List S23) (a0 a1 : ByteArray) (a2 a3 a4 a5 a6 : Int) (a7 : ByteArray) (w : World) : Prop where
  box : w.heap[w0.heap.size]? = some (.cells #[.string a0, .string a1, .int .u8 a2, .int .i64 a3, .int .i64 a4, .int .i64 a5, .int .i64 a6, .string a7] 23 (0, 0))
  row : Kd.C k23 w A l.length l
  below : Below w0.heap.size w0 w
theorem MoreAt.step {w0 : World} {A : Option Addr} {l : List S23} {a0 a1 : ByteArray} {a2 a3 a4 a5 a6 : Int} {a7 : ByteArray} {w w' : World} (h : MoreAt w0 A l a0 a1 a2 a3 a4 a5 a6 a7 w) (hb : Below w.heap.size w w') : MoreAt w0 A l a0 a1 a2 a3 a4 a5 a6 a7 w' :=
  ⟨blk_below h.box hb, Kd.C_below h.row hb, below_step h.below hb⟩
set_option maxHeartbeats 3200000 in
set_option maxRecDepth 100000 in
theorem reelkeeperlaw06_TreeMore.calls (k : Nat) (A : Option Addr) (c : Nat) (l : List S23) (a0 a1 : ByteArray) (a2 a3 a4 a5 a6 : Int) (a7 : ByteArray) (r : Bool) (w : World) (hr : Kd.C k23 w A l.length l) (hc : l.length ≤ c) (h : reelkeeperlaw06_TreeMore.f k l a0 a1 a2 a3 a4 a5 a6 a7 = some r) :
    Calls Try.prog 6 #[.slice A l.length c, .agg #[.string a0, .string a1, .int .u8 a2, .int .i64 a3, .int .i64 a4, .int .i64 a5, .int .i64 a6, .string a7]] w fun e w' => e = .returned (.bool r) ∧ Below w.heap.size w w' := by
  unfold reelkeeperlaw06_TreeMore.f at h
  replace h := Option.bind_eq_some_iff.1 h
  obtain ⟨up, A1, h⟩ := h
  replace h := Option.bind_eq_some_iff.1 h
  obtain ⟨few, A2, h⟩ := h
  replace h := Option.bind_eq_some_iff.1 h
  obtain ⟨one, A3, h⟩ := h
  cases up with
  | false => rw [if_neg (by decide)] at h; cases h
  | true =>
  rw [if_pos rfl] at h
  have HF := Aside0.mk h
  have HM0 : MoreAt w A l a0 a1 a2 a3 a4 a5 a6 a7 (w.alloc (.cells #[.string a0, .string a1, .int .u8 a2, .int .i64 a3, .int .i64 a4, .int .i64 a5, .int .i64 a6, .string a7] 23)) :=
    ⟨heap_alloc_new w _, Kd.C_below hr (below_alloc (Below.refl _ _) _), below_alloc (Below.refl _ _) _⟩
  have HM := Aside0.mk HM0
  have hup := fun W => reelkeeperlaw06_awake.calls k true W A1
  have hfew := fun W (hR : Kd.C k23 W A l.length l) => reelkeeperlaw06_Few.calls k A c l few W hR hc A2
  have hone := fun W => reelkeeperlaw05_Few.calls a0 a1 a2 a3 a4 a5 a6 a7 one W A3
  clear h HM0 A1 A2 A3
  go_enter Try.func6, Try.ntmps6
  go_upto_region 4 with (first | (go_at_call 15; refine (hup _).mono ?_; rintro e w1 ⟨rfl, hb⟩; have HM1 := Aside0.mk (HM.out.step hb); clear hb) | (go_at_call 17; refine (hfew _ HM1.out.row).mono ?_; rintro e w2 ⟨rfl, hb⟩; have HM2 := Aside0.mk (HM1.out.step hb); clear hb; have z0 := (blk_cell HM2.out.box 0).trans (show _ = some (Value.string a0) from rfl); have z1 := (blk_cell HM2.out.box 1).trans (show _ = some (Value.string a1) from rfl); have z2 := (blk_cell HM2.out.box 2).trans (show _ = some (Value.int .u8 a2) from rfl); have z3 := (blk_cell HM2.out.box 3).trans (show _ = some (Value.int .i64 a3) from rfl); have z4 := (blk_cell HM2.out.box 4).trans (show _ = some (Value.int .i64 a4) from rfl); have z5 := (blk_cell HM2.out.box 5).trans (show _ = some (Value.int .i64 a5) from rfl); have z6 := (blk_cell HM2.out.box 6).trans (show _ = some (Value.int .i64 a6) from rfl); have z7 := (blk_cell HM2.out.box 7).trans (show _ = some (Value.string a7) from rfl)) | (go_at_call 16; refine (hone _).mono ?_; rintro e w3 ⟨rfl, hb⟩; have HM3 := Aside0.mk (HM2.out.step hb); clear hb))
  clear z0 z1 z2 z3 z4 z5 z6 z7 hup hfew hone HM HM1 HM2
  have h := HF.out
  clear HF
  cases few with
  | false =>
    rw [if_neg (by decide)] at h
    injection h with h
    subst h
    go_wp2
    go_ret
    exact ⟨rfl, by repeat (first | exact HM3.out.below | apply below_drew | apply pw_below_drewN)⟩
  | true =>
  rw [if_pos rfl] at h
  cases one with
  | false =>
    rw [if_neg (by decide)] at h
    injection h with h
    subst h
    go_wp2
    go_ret
    exact ⟨rfl, by repeat (first | exact HM3.out.below | apply below_drew | apply pw_below_drewN)⟩
  | true =>
  rw [if_pos rfl] at h
  replace h := Option.bind_eq_some_iff.1 h
  obtain ⟨may, A4, h⟩ := h
  have hmay := fun W (hR : Kd.C k23 W A l.length l) => tree_May.calls k A c l may W hR hc A4
  clear A4
  cases may with
  | false =>
    rw [if_neg (by decide)] at h
    injection h with h
    subst h
    go_wp2_with (first | (go_at_call 24; refine (hmay _ HM3.out.row).mono ?_; rintro e w4 ⟨rfl, hb⟩; have HM4 := Aside0.mk (HM3.out.step hb); clear hb))
    go_ret
    exact ⟨rfl, by repeat (first | exact HM4.out.below | apply below_drew | apply pw_below_drewN)⟩
  | true =>
  rw [if_pos rfl] at h
  obtain ⟨n, hn⟩ : ∃ n : S23, n = ⟨a0, a1, a2, a3, a4, a5, a6, a7⟩ := ⟨_, rfl⟩
  rw [← hn] at h
  have HN := Aside0.mk hn
  clear hn
  replace h := Option.bind_eq_some_iff.1 h
  obtain ⟨⟨p1, p2⟩, A5, h⟩ := h
  replace h := Option.bind_eq_some_iff.1 h
  obtain ⟨i, A6, h⟩ := h
  replace h := Option.bind_eq_some_iff.1 h
  obtain ⟨j, A7, h⟩ := h
  replace h := Option.bind_eq_some_iff.1 h
  obtain ⟨more, A8, h⟩ := h
  replace h := Option.bind_eq_some_iff.1 h
  obtain ⟨on, A9, h⟩ := h
  simp only at h A6
  have hlen : l.length ≤ 1000 := by
    rcases Nat.lt_or_ge 1000 l.length with h0 | h0
    · rw [if_neg (by omega)] at h; cases h
    · exact h0
  rw [if_pos hlen] at h
  injection h with h
  have HR := Aside0.mk h
  have hpar := fun W => path_Parent.calls k a0 p1 p2 W A5
  have hfi := fun W (hR : Kd.C k23 W A l.length l) => tree_Find.calls A c l p1 i W hR hc A6
  have hfj := fun W (hR : Kd.C k23 W A l.length l) => tree_Find.calls A c l a1 j W hR hc A7
  have hmore := fun W A' c' (hR : Kd.C k23 W A' (l ++ [n]).length (l ++ [n])) (hc' : (l ++ [n]).length ≤ c') => tree_May.calls k A' c' (l ++ [n]) more W hR hc' A8
  have hon := fun W => tree_One.calls a0 a1 a2 a3 a4 a5 a6 a7 on W A9
  clear h A5 A6 A7 A8 A9
  go_upto_region 6 with (first | (go_at_call 24; refine (hmay _ HM3.out.row).mono ?_; rintro e w4 ⟨rfl, hb⟩; have HM4 := Aside0.mk (HM3.out.step hb); clear hb))
  clear hmay HM3
  go_cut [8] (fun v8 wc => ∃ A8 c8, v8 = .slice A8 (l ++ [n]).length c8 ∧ Aside0 (Kd.R k23 23 wc w.heap.size (fun _ => True) (.slice A8 (l ++ [n]).length c8) (l ++ [n])) ∧ Aside0 (MoreAt w A l a0 a1 a2 a3 a4 a5 a6 a7 wc))
  case first =>
    have hn := HN.out
    subst hn
    have HB4 := Aside0.mk HM4.out.box
    have HROW := Aside0.mk (Kd.C_below HM4.out.row (below_drew (Below.refl _ _)))
    have z0 : w4.cell? ⟨w.heap.size, 0, none⟩ = some (.string a0) := (blk_cell HM4.out.box 0).trans rfl
    have z1 : w4.cell? ⟨w.heap.size, 1, none⟩ = some (.string a1) := (blk_cell HM4.out.box 1).trans rfl
    have z2 : w4.cell? ⟨w.heap.size, 2, none⟩ = some (.int .u8 a2) := (blk_cell HM4.out.box 2).trans rfl
    have z3 : w4.cell? ⟨w.heap.size, 3, none⟩ = some (.int .i64 a3) := (blk_cell HM4.out.box 3).trans rfl
    have z4 : w4.cell? ⟨w.heap.size, 4, none⟩ = some (.int .i64 a4) := (blk_cell HM4.out.box 4).trans rfl
    have z5 : w4.cell? ⟨w.heap.size, 5, none⟩ = some (.int .i64 a5) := (blk_cell HM4.out.box 5).trans rfl
    have z6 : w4.cell? ⟨w.heap.size, 6, none⟩ = some (.int .i64 a6) := (blk_cell HM4.out.box 6).trans rfl
    have z7 : w4.cell? ⟨w.heap.size, 7, none⟩ = some (.string a7) := (blk_cell HM4.out.box 7).trans rfl
    refine wp_region_held_drew (S := fun w' => w'.heap[w.heap.size]? = some (.cells #[.string a0, .string a1, .int .u8 a2, .int .i64 a3, .int .i64 a4, .int .i64 a5, .int .i64 a6, .string a7] 23 (0, 0))) (by kernel_rfl) HB4.out (fun hHeld => ?_)
    refine wpAnyH_take (i := 0) (v := ?_) rfl (by kernel_rfl) (by kernel_rfl) (by kernel_rfl) (fun _ _ _ h => h) (Or.inl ⟨by rfl, ?_⟩) (by assumption) ?_
    rotate_left
    · intro w hSw
      try dsimp only at hSw
      go_simp
      try with_reducible rfl
    try simp only [Act.put, List.setIfInBounds_toArray, List.set_cons_zero, List.set_cons_succ]
    refine wpAnyH_ready (rs := [1, 2]) (by kernel_rfl) (by simp) ?_
    refine AllReadyH.cons rfl (fun K hK => ?_) (AllReadyH.cons rfl (fun K hK => ?_) AllReadyH.nil)
    · refine Kd.R_append_rows_step k23 (w0 := w4) w4.heap.size (by rfl) (.const (.slice none 0 0)) (.tmp 37) 24 23 (.agg #[(.string ⟨#[]⟩), (.string ⟨#[]⟩), (.int .u8 0), (.int .i64 0), (.int .i64 0), (.int .i64 0), (.int .i64 0), (.string ⟨#[]⟩)]) 88 (by rfl) Try.underlying24 info23 rfl (by decide) (by decide) _ [] l A l.length c (fun _ => True) (fun _ => False) (by rfl) (by rfl) (Kd.R_nil _ _ _ _ _) HROW.out (fun _ _ h => h) (fun _ h => h.elim) (fun _ _ => trivial) (below_drew (Below.refl _ _)) (by simp) (by simp; omega) ?_
      intro v1 w5 ho hb hg hat
      obtain ⟨A1, c1, rfl⟩ := Kd.R_slice ho
      have HO1 := Aside0.mk ho
      have HB5 := Aside0.mk hb
      have HX5 := Aside0.mk (blk_below HM4.out.box hb)
      clear ho hb hg hat
      have z0 : w5.cell? ⟨w.heap.size, 0, none⟩ = some (.string a0) := (blk_cell HX5.out 0).trans rfl
      have z1 : w5.cell? ⟨w.heap.size, 1, none⟩ = some (.string a1) := (blk_cell HX5.out 1).trans rfl
      have z2 : w5.cell? ⟨w.heap.size, 2, none⟩ = some (.int .u8 a2) := (blk_cell HX5.out 2).trans rfl
      have z3 : w5.cell? ⟨w.heap.size, 3, none⟩ = some (.int .i64 a3) := (blk_cell HX5.out 3).trans rfl
      have z4 : w5.cell? ⟨w.heap.size, 4, none⟩ = some (.int .i64 a4) := (blk_cell HX5.out 4).trans rfl
      have z5 : w5.cell? ⟨w.heap.size, 5, none⟩ = some (.int .i64 a5) := (blk_cell HX5.out 5).trans rfl
      have z6 : w5.cell? ⟨w.heap.size, 6, none⟩ = some (.int .i64 a6) := (blk_cell HX5.out 6).trans rfl
      have z7 : w5.cell? ⟨w.heap.size, 7, none⟩ = some (.string a7) := (blk_cell HX5.out 7).trans rfl
      refine hK.out _ _ HX5.out (fun hHeld => ?_)
      clear hK K
      try simp only [Act.put, List.setIfInBounds_toArray, List.set_cons_zero, List.set_cons_succ]
      refine wpAnyH_ready (rs := [2]) (by kernel_rfl) (by simp) ?_
      refine AllReadyH.cons rfl (fun K hK => ?_) AllReadyH.nil
      go_simp
      clear z0 z1 z2 z3 z4 z5 z6 z7
      refine hK.out _ _ HX5.out (fun hHeld => ?_)
      clear hK K
      try simp only [Act.put, List.setIfInBounds_toArray, List.set_cons_zero, List.set_cons_succ]
      refine wpAnyH_ready (rs := [3]) (by kernel_rfl) (by simp) ?_
      refine AllReadyH.cons rfl (fun K hK => ?_) AllReadyH.nil
      go_simp
      refine hK.out _ _ (blk_alloc HX5.out _) (fun hHeld => ?_)
      clear hK K
      try simp only [Act.put, List.setIfInBounds_toArray, List.set_cons_zero, List.set_cons_succ]
      refine wpAnyH_ready (rs := [4]) (by kernel_rfl) (by simp) ?_
      refine AllReadyH.cons rfl (fun K hK => ?_) AllReadyH.nil
      refine Kd.R_append_rows_step k23 (w0 := w4) w4.heap.size (by rfl) (.tmp 38) (.tmp 40) 24 23 (.agg #[(.string ⟨#[]⟩), (.string ⟨#[]⟩), (.int .u8 0), (.int .i64 0), (.int .i64 0), (.int .i64 0), (.int .i64 0), (.string ⟨#[]⟩)]) 88 (by rfl) Try.underlying24 info23 rfl (by decide) (by decide) _ l [⟨a0, a1, a2, a3, a4, a5, a6, a7⟩] (some ⟨w5.heap.size, 0, none⟩) 1 1 (fun _ => True) (fun _ => False) (by rfl) (by rfl) (Kd.R_alloc HO1.out _) (more_row ⟨a0, a1, a2, a3, a4, a5, a6, a7⟩ (heap_alloc_new w5 _)) (fun _ _ h => h) (fun _ h => h.elim) (fun _ _ => trivial) (HB5.out.alloc HB5.out.size _) (by have := HB5.out.size; simp; omega) (by first | omega | (simp; omega)) ?_
      intro v2 w6 ho hb hg hat
      obtain ⟨A2, c2, rfl⟩ := Kd.R_slice ho
      refine hK.out _ _ (blk_below HM4.out.box hb) (fun hHeld => ?_)
      clear hK K
      try simp only [Act.put, List.setIfInBounds_toArray, List.set_cons_zero, List.set_cons_succ]
      refine wpAnyH_take (i := 5) (v := ?_) rfl (by kernel_rfl) (by kernel_rfl) (by kernel_rfl) (fun _ _ _ h => h) (Or.inl ⟨by rfl, ?_⟩) (by assumption) ?_
      rotate_left
      · intro w hSw
        try dsimp only at hSw
        go_simp
        try with_reducible rfl
      try simp only [Act.put, List.setIfInBounds_toArray, List.set_cons_zero, List.set_cons_succ]
      refine wpAnyH_done (by kernel_rfl) ?_ _
      simp only [List.getElem_toArray, List.getElem_cons_succ, List.getElem_cons_zero, List.set_cons_zero, List.set_cons_succ]
      go_wp2
      go_meet
      case rel => exact ⟨A2, c2, by rw [List.length_append]; rfl, ⟨Kd.R_lower ho HM4.out.below.size⟩, ⟨HM4.out.step hb⟩⟩
    · go_simp
      refine hK.out _ _ (blk_drew HM4.out.box) (fun hHeld => ?_)
      clear hK K
      try simp only [Act.put, List.setIfInBounds_toArray, List.set_cons_zero, List.set_cons_succ]
      refine wpAnyH_ready (rs := [1, 3]) (by kernel_rfl) (by simp) ?_
      refine AllReadyH.cons rfl (fun K hK => ?_) (AllReadyH.cons rfl (fun K hK => ?_) AllReadyH.nil)
      · refine Kd.R_append_rows_step k23 (w0 := w4) w4.heap.size (by rfl) (.const (.slice none 0 0)) (.tmp 37) 24 23 (.agg #[(.string ⟨#[]⟩), (.string ⟨#[]⟩), (.int .u8 0), (.int .i64 0), (.int .i64 0), (.int .i64 0), (.int .i64 0), (.string ⟨#[]⟩)]) 88 (by rfl) Try.underlying24 info23 rfl (by decide) (by decide) _ [] l A l.length c (fun _ => True) (fun _ => False) (by rfl) (by rfl) (Kd.R_nil _ _ _ _ _) HROW.out (fun _ _ h => h) (fun _ h => h.elim) (fun _ _ => trivial) (below_drew (Below.refl _ _)) (by simp) (by simp; omega) ?_
        intro v1 w5 ho hb hg hat
        obtain ⟨A1, c1, rfl⟩ := Kd.R_slice ho
        have HO1 := Aside0.mk ho
        have HB5 := Aside0.mk hb
        have HX5 := Aside0.mk (blk_below HM4.out.box hb)
        clear ho hb hg hat
        refine hK.out _ _ HX5.out (fun hHeld => ?_)
        clear hK K
        try simp only [Act.put, List.setIfInBounds_toArray, List.set_cons_zero, List.set_cons_succ]
        refine wpAnyH_ready (rs := [3]) (by kernel_rfl) (by simp) ?_
        refine AllReadyH.cons rfl (fun K hK => ?_) AllReadyH.nil
        go_simp
        refine hK.out _ _ (blk_alloc HX5.out _) (fun hHeld => ?_)
        clear hK K
        try simp only [Act.put, List.setIfInBounds_toArray, List.set_cons_zero, List.set_cons_succ]
        refine wpAnyH_ready (rs := [4]) (by kernel_rfl) (by simp) ?_
        refine AllReadyH.cons rfl (fun K hK => ?_) AllReadyH.nil
        refine Kd.R_append_rows_step k23 (w0 := w4) w4.heap.size (by rfl) (.tmp 38) (.tmp 40) 24 23 (.agg #[(.string ⟨#[]⟩), (.string ⟨#[]⟩), (.int .u8 0), (.int .i64 0), (.int .i64 0), (.int .i64 0), (.int .i64 0), (.string ⟨#[]⟩)]) 88 (by rfl) Try.underlying24 info23 rfl (by decide) (by decide) _ l [⟨a0, a1, a2, a3, a4, a5, a6, a7⟩] (some ⟨w5.heap.size, 0, none⟩) 1 1 (fun _ => True) (fun _ => False) (by rfl) (by rfl) (Kd.R_alloc HO1.out _) (more_row ⟨a0, a1, a2, a3, a4, a5, a6, a7⟩ (heap_alloc_new w5 _)) (fun _ _ h => h) (fun _ h => h.elim) (fun _ _ => trivial) (HB5.out.alloc HB5.out.size _) (by have := HB5.out.size; simp; omega) (by first | omega | (simp; omega)) ?_
        intro v2 w6 ho hb hg hat
        obtain ⟨A2, c2, rfl⟩ := Kd.R_slice ho
        refine hK.out _ _ (blk_below HM4.out.box hb) (fun hHeld => ?_)
        clear hK K
        try simp only [Act.put, List.setIfInBounds_toArray, List.set_cons_zero, List.set_cons_succ]
        refine wpAnyH_take (i := 5) (v := ?_) rfl (by kernel_rfl) (by kernel_rfl) (by kernel_rfl) (fun _ _ _ h => h) (Or.inl ⟨by rfl, ?_⟩) (by assumption) ?_
        rotate_left
        · intro w hSw
          try dsimp only at hSw
          go_simp
          try with_reducible rfl
        try simp only [Act.put, List.setIfInBounds_toArray, List.set_cons_zero, List.set_cons_succ]
        refine wpAnyH_done (by kernel_rfl) ?_ _
        simp only [List.getElem_toArray, List.getElem_cons_succ, List.getElem_cons_zero, List.set_cons_zero, List.set_cons_succ]
        go_wp2
        go_meet
        case rel => exact ⟨A2, c2, by rw [List.length_append]; rfl, ⟨Kd.R_lower ho HM4.out.below.size⟩, ⟨HM4.out.step hb⟩⟩
      · go_simp
        refine hK.out _ _ (blk_alloc (blk_drew HM4.out.box) _) (fun hHeld => ?_)
        clear hK K
        try simp only [Act.put, List.setIfInBounds_toArray, List.set_cons_zero, List.set_cons_succ]
        refine wpAnyH_ready (rs := [1]) (by kernel_rfl) (by simp) ?_
        refine AllReadyH.cons rfl (fun K hK => ?_) AllReadyH.nil
        refine Kd.R_append_rows_step k23 (w0 := w4) w4.heap.size (by rfl) (.const (.slice none 0 0)) (.tmp 37) 24 23 (.agg #[(.string ⟨#[]⟩), (.string ⟨#[]⟩), (.int .u8 0), (.int .i64 0), (.int .i64 0), (.int .i64 0), (.int .i64 0), (.string ⟨#[]⟩)]) 88 (by rfl) Try.underlying24 info23 rfl (by decide) (by decide) _ [] l A l.length c (fun _ => True) (fun _ => False) (by rfl) (by rfl) (Kd.R_nil _ _ _ _ _) (Kd.C_alloc HROW.out _) (fun _ _ h => h) (fun _ h => h.elim) (fun _ _ => trivial) ((below_drew (Below.refl _ _)).alloc (by simp) _) (by simp) (by simp; omega) ?_
        intro v1 w5 ho hb hg hat
        obtain ⟨A1, c1, rfl⟩ := Kd.R_slice ho
        have HO1 := Aside0.mk ho
        have HB5 := Aside0.mk hb
        have HX5 := Aside0.mk (blk_below HM4.out.box hb)
        have HRN := Aside0.mk (more_row ⟨a0, a1, a2, a3, a4, a5, a6, a7⟩ ((hg.block w4.drew.heap.size (by simp) (by intro h; cases h)).trans (heap_alloc_new w4.drew _)))
        clear ho hb hg hat
        refine hK.out _ _ HX5.out (fun hHeld => ?_)
        clear hK K
        try simp only [Act.put, List.setIfInBounds_toArray, List.set_cons_zero, List.set_cons_succ]
        refine wpAnyH_ready (rs := [4]) (by kernel_rfl) (by simp) ?_
        refine AllReadyH.cons rfl (fun K hK => ?_) AllReadyH.nil
        refine Kd.R_append_rows_step k23 (w0 := w4) w4.heap.size (by rfl) (.tmp 38) (.tmp 40) 24 23 (.agg #[(.string ⟨#[]⟩), (.string ⟨#[]⟩), (.int .u8 0), (.int .i64 0), (.int .i64 0), (.int .i64 0), (.int .i64 0), (.string ⟨#[]⟩)]) 88 (by rfl) Try.underlying24 info23 rfl (by decide) (by decide) _ l [⟨a0, a1, a2, a3, a4, a5, a6, a7⟩] (some ⟨w4.drew.heap.size, 0, none⟩) 1 1 (fun _ => True) (fun _ => False) (by rfl) (by rfl) HO1.out HRN.out (fun _ _ h => h) (fun _ h => h.elim) (fun _ _ => trivial) HB5.out (by have := HB5.out.size; simp; omega) (by first | omega | (simp; omega)) ?_
        intro v2 w6 ho hb hg hat
        obtain ⟨A2, c2, rfl⟩ := Kd.R_slice ho
        refine hK.out _ _ (blk_below HM4.out.box hb) (fun hHeld => ?_)
        clear hK K
        try simp only [Act.put, List.setIfInBounds_toArray, List.set_cons_zero, List.set_cons_succ]
        refine wpAnyH_take (i := 5) (v := ?_) rfl (by kernel_rfl) (by kernel_rfl) (by kernel_rfl) (fun _ _ _ h => h) (Or.inl ⟨by rfl, ?_⟩) (by assumption) ?_
        rotate_left
        · intro w hSw
          try dsimp only at hSw
          go_simp
          try with_reducible rfl
        try simp only [Act.put, List.setIfInBounds_toArray, List.set_cons_zero, List.set_cons_succ]
        refine wpAnyH_done (by kernel_rfl) ?_ _
        simp only [List.getElem_toArray, List.getElem_cons_succ, List.getElem_cons_zero, List.set_cons_zero, List.set_cons_succ]
        go_wp2
        go_meet
        case rel => exact ⟨A2, c2, by rw [List.length_append]; rfl, ⟨Kd.R_lower ho HM4.out.below.size⟩, ⟨HM4.out.step hb⟩⟩
  case rest =>
    obtain ⟨A8, c8, rfl, HRR, HM5⟩ := hcut
    clear HM4
    have z0 : wc.cell? ⟨w.heap.size, 0, none⟩ = some (.string a0) := (blk_cell HM5.out.box 0).trans rfl
    have z1 : wc.cell? ⟨w.heap.size, 1, none⟩ = some (.string a1) := (blk_cell HM5.out.box 1).trans rfl
    have z2 : wc.cell? ⟨w.heap.size, 2, none⟩ = some (.int .u8 a2) := (blk_cell HM5.out.box 2).trans rfl
    have z3 : wc.cell? ⟨w.heap.size, 3, none⟩ = some (.int .i64 a3) := (blk_cell HM5.out.box 3).trans rfl
    have z4 : wc.cell? ⟨w.heap.size, 4, none⟩ = some (.int .i64 a4) := (blk_cell HM5.out.box 4).trans rfl
    have z5 : wc.cell? ⟨w.heap.size, 5, none⟩ = some (.int .i64 a5) := (blk_cell HM5.out.box 5).trans rfl
    have z6 : wc.cell? ⟨w.heap.size, 6, none⟩ = some (.int .i64 a6) := (blk_cell HM5.out.box 6).trans rfl
    have z7 : wc.cell? ⟨w.heap.size, 7, none⟩ = some (.string a7) := (blk_cell HM5.out.box 7).trans rfl
    go_upto_region 10 with (first | (go_at_call 29; refine (hpar _).mono ?_; rintro e w7 ⟨rfl, hb⟩; have HM7 := Aside0.mk (HM5.out.step hb); have HRR7 := Aside0.mk (Kd.R_below HRR.out hb); clear hb z0 z1 z2 z3 z4 z5 z6 z7; have hp := HM7.out.row) | (go_at_call 26; refine (hfi _ hp).mono ?_; rintro e w8 ⟨rfl, hb⟩; have HM8 := Aside0.mk (HM7.out.step hb); have HRR8 := Aside0.mk (Kd.R_below HRR7.out hb); clear hb hp hfi; have hq := HM8.out.row; have z1 : w8.cell? ⟨w.heap.size, 1, none⟩ = some (.string a1) := (blk_cell HM8.out.box 1).trans rfl) | (go_at_call 26; refine (hfj _ hq).mono ?_; rintro e w9 ⟨rfl, hb⟩; have HM9 := Aside0.mk (HM8.out.step hb); have HRR9 := Aside0.mk (Kd.R_below HRR8.out hb); clear hb hq))
    clear z1 HM5 HRR HM7 HRR7 HM8 HRR8 hpar
    go_cut [13] (fun v13 wc => v13 = .bool (!p2 || moreDir l i 53) ∧ Aside0 (Kd.R k23 23 wc w.heap.size (fun _ => True) (.slice A8 (l ++ [n]).length c8) (l ++ [n])) ∧ Aside0 (MoreAt w A l a0 a1 a2 a3 a4 a5 a6 a7 wc))
    case first =>
      cases p2 with
      | false =>
        go_wp2
        go_meet
        case rel => exact ⟨by simp, ⟨by (with_reducible repeat (first | apply Kd.R_alloc | apply Kd.R_drewN | apply Kd.R_drew)); exact HRR9.out⟩, ⟨HM9.out⟩⟩
      | true =>
        by_cases d0 : 0 ≤ i
        · have d0b : decide (0 ≤ i) = true := decide_eq_true d0
          by_cases d1 : i < (l.length : Int)
          · have d1b : decide (i < (l.length : Int)) = true := decide_eq_true d1
            obtain ⟨ad, ead, hx0, hx1, hx2, hx3, hx4, hx5, hx6, hx7⟩ := at_T23 HM9.out.row i d0 d1
            cases ead
            replace d0 := eq_true d0
            replace d1 := eq_true d1
            go_wp2
            repeat (go_quiet (fail); try go_wp2)
            go_meet
            case rel => exact ⟨by simp [*, moreDir], ⟨by (with_reducible repeat (first | apply Kd.R_alloc | apply Kd.R_drewN | apply Kd.R_drew)); exact HRR9.out⟩, ⟨HM9.out⟩⟩
          · have d1b : decide (i < (l.length : Int)) = false := decide_eq_false d1
            go_wp2
            repeat (go_quiet (fail); try go_wp2)
            go_meet
            case rel => exact ⟨by simp [*, moreDir], ⟨by (with_reducible repeat (first | apply Kd.R_alloc | apply Kd.R_drewN | apply Kd.R_drew)); exact HRR9.out⟩, ⟨HM9.out⟩⟩
        · have d0b : decide (0 ≤ i) = false := decide_eq_false d0
          go_wp2
          repeat (go_quiet (fail); try go_wp2)
          go_meet
          case rel => exact ⟨by simp [*, moreDir], ⟨by (with_reducible repeat (first | apply Kd.R_alloc | apply Kd.R_drewN | apply Kd.R_drew)); exact HRR9.out⟩, ⟨HM9.out⟩⟩
    case rest =>
      obtain ⟨rfl, HRR10, HM10⟩ := hcut
      clear HM9 HRR9
      have z0 : wc.cell? ⟨w.heap.size, 0, none⟩ = some (.string a0) := (blk_cell HM10.out.box 0).trans rfl
      have z1 : wc.cell? ⟨w.heap.size, 1, none⟩ = some (.string a1) := (blk_cell HM10.out.box 1).trans rfl
      have z2 : wc.cell? ⟨w.heap.size, 2, none⟩ = some (.int .u8 a2) := (blk_cell HM10.out.box 2).trans rfl
      have z3 : wc.cell? ⟨w.heap.size, 3, none⟩ = some (.int .i64 a3) := (blk_cell HM10.out.box 3).trans rfl
      have z4 : wc.cell? ⟨w.heap.size, 4, none⟩ = some (.int .i64 a4) := (blk_cell HM10.out.box 4).trans rfl
      have z5 : wc.cell? ⟨w.heap.size, 5, none⟩ = some (.int .i64 a5) := (blk_cell HM10.out.box 5).trans rfl
      have z6 : wc.cell? ⟨w.heap.size, 6, none⟩ = some (.int .i64 a6) := (blk_cell HM10.out.box 6).trans rfl
      have z7 : wc.cell? ⟨w.heap.size, 7, none⟩ = some (.string a7) := (blk_cell HM10.out.box 7).trans rfl
      go_upto_region 11 with (fail)
      go_cut [1, 14] (fun v1 v14 wc => v1 = .agg #[.string a0, .string a1, .int .u8 a2, .int .i64 a3, .int .i64 a4, .int .i64 a5, .int .i64 a6, .string a7] ∧ v14 = .bool (!(a2 == 49) || moreDir l j 48) ∧ Aside0 (Kd.R k23 23 wc w.heap.size (fun _ => True) (.slice A8 (l ++ [n]).length c8) (l ++ [n])) ∧ Aside0 (MoreAt w A l a0 a1 a2 a3 a4 a5 a6 a7 wc))
      case first =>
        by_cases c2 : a2 = 49
        · have c2b : (a2 == 49) = true := beq_iff_eq.2 c2
          by_cases d0 : 0 ≤ j
          · have d0b : decide (0 ≤ j) = true := decide_eq_true d0
            by_cases d1 : j < (l.length : Int)
            · have d1b : decide (j < (l.length : Int)) = true := decide_eq_true d1
              obtain ⟨ad, ead, hx0, hx1, hx2, hx3, hx4, hx5, hx6, hx7⟩ := at_T23 HM10.out.row j d0 d1
              cases ead
              replace d0 := eq_true d0
              replace d1 := eq_true d1
              go_wp2
              repeat (go_quiet (fail); try go_wp2)
              go_meet
              case rel => exact ⟨by first | rfl | simp [*], by simp [*, moreDir], ⟨by (with_reducible repeat (first | apply Kd.R_alloc | apply Kd.R_drewN | apply Kd.R_drew)); exact HRR10.out⟩, ⟨HM10.out⟩⟩
            · have d1b : decide (j < (l.length : Int)) = false := decide_eq_false d1
              go_wp2
              repeat (go_quiet (fail); try go_wp2)
              go_meet
              case rel => exact ⟨by first | rfl | simp [*], by simp [*, moreDir], ⟨by (with_reducible repeat (first | apply Kd.R_alloc | apply Kd.R_drewN | apply Kd.R_drew)); exact HRR10.out⟩, ⟨HM10.out⟩⟩
          · have d0b : decide (0 ≤ j) = false := decide_eq_false d0
            go_wp2
            repeat (go_quiet (fail); try go_wp2)
            go_meet
            case rel => exact ⟨by first | rfl | simp [*], by simp [*, moreDir], ⟨by (with_reducible repeat (first | apply Kd.R_alloc | apply Kd.R_drewN | apply Kd.R_drew)); exact HRR10.out⟩, ⟨HM10.out⟩⟩
        · have c2b : (a2 == 49) = false := beq_eq_false_iff_ne.2 c2
          go_wp2
          repeat (go_quiet (fail); try go_wp2)
          go_meet
          case rel => exact ⟨rfl, by simp [*], ⟨by (with_reducible repeat (first | apply Kd.R_alloc | apply Kd.R_drewN | apply Kd.R_drew)); exact HRR10.out⟩, ⟨HM10.out⟩⟩
      case rest =>
        obtain ⟨rfl, rfl, HRR11, HM11⟩ := hcut
        clear HM10 HRR10 z0 z1 z2 z3 z4 z5 z6 z7
        have z0 : wc.cell? ⟨w.heap.size, 0, none⟩ = some (.string a0) := (blk_cell HM11.out.box 0).trans rfl
        have z1 : wc.cell? ⟨w.heap.size, 1, none⟩ = some (.string a1) := (blk_cell HM11.out.box 1).trans rfl
        have z2 : wc.cell? ⟨w.heap.size, 2, none⟩ = some (.int .u8 a2) := (blk_cell HM11.out.box 2).trans rfl
        have z3 : wc.cell? ⟨w.heap.size, 3, none⟩ = some (.int .i64 a3) := (blk_cell HM11.out.box 3).trans rfl
        have z4 : wc.cell? ⟨w.heap.size, 4, none⟩ = some (.int .i64 a4) := (blk_cell HM11.out.box 4).trans rfl
        have z5 : wc.cell? ⟨w.heap.size, 5, none⟩ = some (.int .i64 a5) := (blk_cell HM11.out.box 5).trans rfl
        have z6 : wc.cell? ⟨w.heap.size, 6, none⟩ = some (.int .i64 a6) := (blk_cell HM11.out.box 6).trans rfl
        have z7 : wc.cell? ⟨w.heap.size, 7, none⟩ = some (.string a7) := (blk_cell HM11.out.box 7).trans rfl
        go_upto_region 12 with (fail)
        go_cut [15] (fun v15 wc => v15 = .bool (moreBehind l a0) ∧ Aside0 (Kd.R k23 23 wc w.heap.size (fun _ => True) (.slice A8 (l ++ [n]).length c8) (l ++ [n])) ∧ Aside0 (MoreAt w A l a0 a1 a2 a3 a4 a5 a6 a7 wc))
        case first =>
          by_cases c3 : l.length = 0
          · have c3b : ((l.length : Int) == 0) = true := beq_iff_eq.2 (by omega)
            go_wp2
            repeat (go_quiet (fail); try go_wp2)
            go_meet
            case rel => exact ⟨by simp [*, moreBehind], ⟨by (with_reducible repeat (first | apply Kd.R_alloc | apply Kd.R_drewN | apply Kd.R_drew)); exact HRR11.out⟩, ⟨by first | exact HM11.out | exact HM11.out.step (pw_below_drewN (Below.refl _ _) _) | exact HM11.out.step (below_drew (Below.refl _ _))⟩⟩
          · have c3b : ((l.length : Int) == 0) = false := beq_eq_false_iff_ne.2 (by omega)
            have c3c : ((l.length : Int) = 0) = False := eq_false (by omega)
            have c3d : (l.length = 0) = False := eq_false c3
            have c3e : (l = []) = False := eq_false (fun h => c3 (by rw [h]; rfl))
            have c3f : (l.length == 0) = false := beq_eq_false_iff_ne.2 c3
            obtain ⟨q, hq⟩ : ∃ q : Int, q = (l.length : Int) - 1 := ⟨_, rfl⟩
            have d0 : 0 ≤ q := by omega
            have d1 : q < (l.length : Int) := by omega
            obtain ⟨ad, ead, hx0, hx1, hx2, hx3, hx4, hx5, hx6, hx7⟩ := at_T23 HM11.out.row q d0 d1
            cases ead
            have hw : wrap64 ((l.length : Int) - 1) = q := by rw [← hq]; unfold wrap64; omega
            rw [← i64_w] at hw
            have HQ := Aside0.mk hq
            clear hq
            replace d0 := eq_true d0
            replace d1 := eq_true d1
            go_wp2
            repeat (go_quiet (fail); try go_wp2)
            clear hw
            go_meet
            case rel => exact ⟨by unfold moreBehind; rw [decide_eq_false c3, Bool.false_or, ← HQ.out]; first | rfl | (rw [leq_less, Bool.not_not]) | (rw [← Bool.not_or, leq_less, Bool.not_not]), ⟨by (with_reducible repeat (first | apply Kd.R_alloc | apply Kd.R_drewN | apply Kd.R_drew)); exact HRR11.out⟩, ⟨by first | exact HM11.out | exact HM11.out.step (pw_below_drewN (Below.refl _ _) _) | exact HM11.out.step (below_drew (Below.refl _ _))⟩⟩
        case rest =>
          obtain ⟨rfl, HRR12, HM12⟩ := hcut
          clear HM11 HRR11 z0 z1 z2 z3 z4 z5 z6 z7
          have hr2 := HR.out
          generalize (!p2 || moreDir l i 53) = D at hr2 ⊢
          generalize (!(a2 == 49) || moreDir l j 48) = F at hr2 ⊢
          generalize moreBehind l a0 = B at hr2 ⊢
          clear HR
          go_upto_region 13 with (fail)
          have z0 : wc.cell? ⟨w.heap.size, 0, none⟩ = some (.string a0) := (blk_cell HM12.out.box 0).trans rfl
          have z1 : wc.cell? ⟨w.heap.size, 1, none⟩ = some (.string a1) := (blk_cell HM12.out.box 1).trans rfl
          have z2 : wc.cell? ⟨w.heap.size, 2, none⟩ = some (.int .u8 a2) := (blk_cell HM12.out.box 2).trans rfl
          have z3 : wc.cell? ⟨w.heap.size, 3, none⟩ = some (.int .i64 a3) := (blk_cell HM12.out.box 3).trans rfl
          have z4 : wc.cell? ⟨w.heap.size, 4, none⟩ = some (.int .i64 a4) := (blk_cell HM12.out.box 4).trans rfl
          have z5 : wc.cell? ⟨w.heap.size, 5, none⟩ = some (.int .i64 a5) := (blk_cell HM12.out.box 5).trans rfl
          have z6 : wc.cell? ⟨w.heap.size, 6, none⟩ = some (.int .i64 a6) := (blk_cell HM12.out.box 6).trans rfl
          have z7 : wc.cell? ⟨w.heap.size, 7, none⟩ = some (.string a7) := (blk_cell HM12.out.box 7).trans rfl
          obtain ⟨_, hcap, hCm⟩ := Kd.R_reads' HRR12.out
          have hMay := hmore wc A8 c8 hCm hcap
          rw [List.length_append] at hMay
          have hMay2 : Calls Try.prog 24 #[.slice A8 (l.length + 1) c8] wc fun e w' => e = Ending.returned (.bool more) ∧ Below wc.heap.size wc w' := hMay
          subst hr2
          clear hMay hmore hfj hcap hCm HRR12 hr
          by_cases c4 : l.length < 20
          · have c4b : decide ((l.length : Int) < 20) = true := decide_eq_true (by omega)
            cases on with
            | false =>
              go_wp2_with (first | (go_at_call 24; refine hMay2.mono ?_; rintro e w13 ⟨rfl, hb⟩; have HM13 := Aside0.mk (HM12.out.step hb); clear hb z0 z1 z2 z3 z4 z5 z6 z7; have z0 : w13.cell? ⟨w.heap.size, 0, none⟩ = some (.string a0) := (blk_cell HM13.out.box 0).trans rfl; have z1 : w13.cell? ⟨w.heap.size, 1, none⟩ = some (.string a1) := (blk_cell HM13.out.box 1).trans rfl; have z2 : w13.cell? ⟨w.heap.size, 2, none⟩ = some (.int .u8 a2) := (blk_cell HM13.out.box 2).trans rfl; have z3 : w13.cell? ⟨w.heap.size, 3, none⟩ = some (.int .i64 a3) := (blk_cell HM13.out.box 3).trans rfl; have z4 : w13.cell? ⟨w.heap.size, 4, none⟩ = some (.int .i64 a4) := (blk_cell HM13.out.box 4).trans rfl; have z5 : w13.cell? ⟨w.heap.size, 5, none⟩ = some (.int .i64 a5) := (blk_cell HM13.out.box 5).trans rfl; have z6 : w13.cell? ⟨w.heap.size, 6, none⟩ = some (.int .i64 a6) := (blk_cell HM13.out.box 6).trans rfl; have z7 : w13.cell? ⟨w.heap.size, 7, none⟩ = some (.string a7) := (blk_cell HM13.out.box 7).trans rfl) | (go_at_call 23; refine (hon _).mono ?_; rintro e w14 ⟨rfl, hb⟩; have HM14 := Aside0.mk (HM13.out.step hb); clear hb))
              go_ret
              exact ⟨by simp [*], HM14.out.below⟩
            | true =>
            cases D with
            | false =>
              go_wp2_with (first | (go_at_call 24; refine hMay2.mono ?_; rintro e w13 ⟨rfl, hb⟩; have HM13 := Aside0.mk (HM12.out.step hb); clear hb z0 z1 z2 z3 z4 z5 z6 z7; have z0 : w13.cell? ⟨w.heap.size, 0, none⟩ = some (.string a0) := (blk_cell HM13.out.box 0).trans rfl; have z1 : w13.cell? ⟨w.heap.size, 1, none⟩ = some (.string a1) := (blk_cell HM13.out.box 1).trans rfl; have z2 : w13.cell? ⟨w.heap.size, 2, none⟩ = some (.int .u8 a2) := (blk_cell HM13.out.box 2).trans rfl; have z3 : w13.cell? ⟨w.heap.size, 3, none⟩ = some (.int .i64 a3) := (blk_cell HM13.out.box 3).trans rfl; have z4 : w13.cell? ⟨w.heap.size, 4, none⟩ = some (.int .i64 a4) := (blk_cell HM13.out.box 4).trans rfl; have z5 : w13.cell? ⟨w.heap.size, 5, none⟩ = some (.int .i64 a5) := (blk_cell HM13.out.box 5).trans rfl; have z6 : w13.cell? ⟨w.heap.size, 6, none⟩ = some (.int .i64 a6) := (blk_cell HM13.out.box 6).trans rfl; have z7 : w13.cell? ⟨w.heap.size, 7, none⟩ = some (.string a7) := (blk_cell HM13.out.box 7).trans rfl) | (go_at_call 23; refine (hon _).mono ?_; rintro e w14 ⟨rfl, hb⟩; have HM14 := Aside0.mk (HM13.out.step hb); clear hb))
              go_ret
              exact ⟨by simp [*], HM14.out.below⟩
            | true =>
            cases F with
            | false =>
              go_wp2_with (first | (go_at_call 24; refine hMay2.mono ?_; rintro e w13 ⟨rfl, hb⟩; have HM13 := Aside0.mk (HM12.out.step hb); clear hb z0 z1 z2 z3 z4 z5 z6 z7; have z0 : w13.cell? ⟨w.heap.size, 0, none⟩ = some (.string a0) := (blk_cell HM13.out.box 0).trans rfl; have z1 : w13.cell? ⟨w.heap.size, 1, none⟩ = some (.string a1) := (blk_cell HM13.out.box 1).trans rfl; have z2 : w13.cell? ⟨w.heap.size, 2, none⟩ = some (.int .u8 a2) := (blk_cell HM13.out.box 2).trans rfl; have z3 : w13.cell? ⟨w.heap.size, 3, none⟩ = some (.int .i64 a3) := (blk_cell HM13.out.box 3).trans rfl; have z4 : w13.cell? ⟨w.heap.size, 4, none⟩ = some (.int .i64 a4) := (blk_cell HM13.out.box 4).trans rfl; have z5 : w13.cell? ⟨w.heap.size, 5, none⟩ = some (.int .i64 a5) := (blk_cell HM13.out.box 5).trans rfl; have z6 : w13.cell? ⟨w.heap.size, 6, none⟩ = some (.int .i64 a6) := (blk_cell HM13.out.box 6).trans rfl; have z7 : w13.cell? ⟨w.heap.size, 7, none⟩ = some (.string a7) := (blk_cell HM13.out.box 7).trans rfl) | (go_at_call 23; refine (hon _).mono ?_; rintro e w14 ⟨rfl, hb⟩; have HM14 := Aside0.mk (HM13.out.step hb); clear hb))
              go_ret
              exact ⟨by simp [*], HM14.out.below⟩
            | true =>
            go_wp2_with (first | (go_at_call 24; refine hMay2.mono ?_; rintro e w13 ⟨rfl, hb⟩; have HM13 := Aside0.mk (HM12.out.step hb); clear hb z0 z1 z2 z3 z4 z5 z6 z7; have z0 : w13.cell? ⟨w.heap.size, 0, none⟩ = some (.string a0) := (blk_cell HM13.out.box 0).trans rfl; have z1 : w13.cell? ⟨w.heap.size, 1, none⟩ = some (.string a1) := (blk_cell HM13.out.box 1).trans rfl; have z2 : w13.cell? ⟨w.heap.size, 2, none⟩ = some (.int .u8 a2) := (blk_cell HM13.out.box 2).trans rfl; have z3 : w13.cell? ⟨w.heap.size, 3, none⟩ = some (.int .i64 a3) := (blk_cell HM13.out.box 3).trans rfl; have z4 : w13.cell? ⟨w.heap.size, 4, none⟩ = some (.int .i64 a4) := (blk_cell HM13.out.box 4).trans rfl; have z5 : w13.cell? ⟨w.heap.size, 5, none⟩ = some (.int .i64 a5) := (blk_cell HM13.out.box 5).trans rfl; have z6 : w13.cell? ⟨w.heap.size, 6, none⟩ = some (.int .i64 a6) := (blk_cell HM13.out.box 6).trans rfl; have z7 : w13.cell? ⟨w.heap.size, 7, none⟩ = some (.string a7) := (blk_cell HM13.out.box 7).trans rfl) | (go_at_call 23; refine (hon _).mono ?_; rintro e w14 ⟨rfl, hb⟩; have HM14 := Aside0.mk (HM13.out.step hb); clear hb))
            go_ret
            exact ⟨by simp [*], HM14.out.below⟩
          · have c4b : decide ((l.length : Int) < 20) = false := decide_eq_false (by omega)
            go_wp2_with (first | (go_at_call 24; refine hMay2.mono ?_; rintro e w13 ⟨rfl, hb⟩; have HM13 := Aside0.mk (HM12.out.step hb); clear hb z0 z1 z2 z3 z4 z5 z6 z7; have z0 : w13.cell? ⟨w.heap.size, 0, none⟩ = some (.string a0) := (blk_cell HM13.out.box 0).trans rfl; have z1 : w13.cell? ⟨w.heap.size, 1, none⟩ = some (.string a1) := (blk_cell HM13.out.box 1).trans rfl; have z2 : w13.cell? ⟨w.heap.size, 2, none⟩ = some (.int .u8 a2) := (blk_cell HM13.out.box 2).trans rfl; have z3 : w13.cell? ⟨w.heap.size, 3, none⟩ = some (.int .i64 a3) := (blk_cell HM13.out.box 3).trans rfl; have z4 : w13.cell? ⟨w.heap.size, 4, none⟩ = some (.int .i64 a4) := (blk_cell HM13.out.box 4).trans rfl; have z5 : w13.cell? ⟨w.heap.size, 5, none⟩ = some (.int .i64 a5) := (blk_cell HM13.out.box 5).trans rfl; have z6 : w13.cell? ⟨w.heap.size, 6, none⟩ = some (.int .i64 a6) := (blk_cell HM13.out.box 6).trans rfl; have z7 : w13.cell? ⟨w.heap.size, 7, none⟩ = some (.string a7) := (blk_cell HM13.out.box 7).trans rfl) | (go_at_call 23; refine (hon _).mono ?_; rintro e w14 ⟨rfl, hb⟩; have HM14 := Aside0.mk (HM13.out.step hb); clear hb))
            go_ret
            exact ⟨by simp [*], HM13.out.below⟩
theorem reelkeeperlaw06_TreeMore.mono : ∀ a0 a1 a2 a3 a4 a5 a6 a7 a8 k, LeO (reelkeeperlaw06_TreeMore.f k a0 a1 a2 a3 a4 a5 a6 a7 a8) (reelkeeperlaw06_TreeMore.f (k + 1) a0 a1 a2 a3 a4 a5 a6 a7 a8) := by
  intro a0 a1 a2 a3 a4 a5 a6 a7 a8 k
  unfold reelkeeperlaw06_TreeMore.f
  repeat' first
    | exact reelkeeperlaw06_awake.mono _
    | exact reelkeeperlaw06_Few.mono _ _
    | exact tree_May.mono _ _
    | exact path_Parent.mono _ _
    | exact LeO.refl _
    | refine LeO.ite ?_ ?_
    | refine LeO.bind ?_ (fun _ => ?_)

end Go.Proofs.Ytddjnicmpgbcgaa.X
