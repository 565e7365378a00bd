import Derived.Test.YtddjnicmpgbcgaaXK
import Derived.Test.YtddjnicmpgbcgaaXGblock
import Derived.Test.YtddjnicmpgbcgaaXGlong
import Derived.Test.YtddjnicmpgbcgaaXGreelkeeperref03
import Derived.Test.YtddjnicmpgbcgaaXGslices
import Derived.Test.YtddjnicmpgbcgaaXreelkeeperlaw05Few
import Derived.Test.YtddjnicmpgbcgaaXreelkeeperlaw05awake
import Derived.Test.YtddjnicmpgbcgaaYConv
import Derived.Test.YtddjnicmpgbcgaaYCopy
import Derived.Test.YtddjnicmpgbcgaaYIter
import Derived.Test.YtddjnicmpgbcgaaPGA
import Derived.Deep.DeepCutAuto
import Derived.Laws.EntriesVeiled
import Derived.WalkSpells
namespace Go.Proofs.Ytddjnicmpgbcgaa.X
open Go.RowKit Go.Proofs.YtddjnicmpgbcgaaW.PrintWords Go.Proofs.YtddjnicmpgbcgaaW.PrintLast Go.Proofs.YtddjnicmpgbcgaaW.PrintMore
attribute [local go_sem] max2_int min2_int max_two min_two max_three min_three max_four min_four
set_option linter.unusedVariables false
set_option linter.unusedSimpArgs false

open Go.Proofs.YtddjnicmpgbcgaaY
def reelkeeperlaw05_LongAhead.f (k : Nat) (a0_0 a0_1 : ByteArray) (a0_2 a0_3 a0_4 a0_5 a0_6 : Int) (a0_7 : ByteArray) : Option Bool := some true
theorem LongAhead_told (n : Nd) : ∃ k, reelkeeperlaw05_LongAhead.f k n.f0 n.f1 n.f2 n.f3 n.f4 n.f5 n.f6 n.f7 = some true := ⟨0, rfl⟩
/-- Rows that lie in blocks from one number up to another one. -/
def RowsIn (lo hi base : Nat) (W : World) (A : Option Addr) (l : List (List Int)) : Prop := ReadsRow (kRow.M W base (fun k => lo ≤ k ∧ k < hi)) 1 W A l.length l
theorem rows_fresh {base : Nat} {W w' : World} {v : Value} {xs : List (List Int)} (h : Kd.R kRow 50 w' W.heap.size (fun _ => True) v xs) (hb : base ≤ W.heap.size) : ∃ A c, v = .slice A xs.length c ∧ RowsIn W.heap.size w'.heap.size base w' A xs := by
  obtain ⟨_, ho⟩ := Kd.R_bound h
  obtain ⟨A, c, hv, hl, hr⟩ := OwnRow.reads ho
  exact ⟨A, c, hv, hr.imp_ (Below.refl _ _) (fun _ _ hp => kRow.M_lower hb (kRow.M_mono (fun k hk => ⟨hk.1.2.1, hk.1.2.2.1⟩) hp))⟩
theorem rows_later {lo hi base : Nat} {W w' : World} {A : Option Addr} {l : List (List Int)} (h : RowsIn lo hi base W A l) (hb : Below W.heap.size W w') : RowsIn lo hi base w' A l :=
  ReadsRow.imp_ h hb (fun _ _ hp => kRow.M_mono (fun _ hk => hk.1) (Kd.M_below (kRow.M_bound hp) hb))
theorem put_fresh {kind : Int} {s : ByteArray} {l : List (List Int)} {b : Bool} (h : long_Put.f kind s = some (l, b)) (base : Nat) (W : World) (hbase : base ≤ W.heap.size) :
    Calls Try.prog 31 #[.int .u8 kind, .string s] W fun e w' => ∃ A c, e = .returned (.tuple #[.slice A l.length c, .bool b]) ∧ Aside0 (RowsIn W.heap.size w'.heap.size base w' A l) ∧ Below W.heap.size W w' := (long_Put.calls kind s l b W h).mono (by
  rintro e w' ⟨v, rfl, hR, hB⟩
  obtain ⟨A, c, rfl, hr⟩ := rows_fresh hR hbase
  exact ⟨A, c, rfl, ⟨hr⟩, hB⟩)
theorem blocksOk_append {a b : List (List Int)} (ha : blocksOk a = true) (hb : blocksOk b = true) : blocksOk (a ++ b) = true := by
  unfold blocksOk at ha hb ⊢
  rw [Bool.not_eq_true'] at ha hb ⊢
  rw [List.any_append, ha, hb]; rfl
theorem blocksOk_of {l : List (List Int)} (h : ∀ x ∈ l, x.length = 512) : blocksOk l = true := by
  unfold blocksOk
  rw [Bool.not_eq_true', List.any_eq_false]
  intro x hx
  rw [h x hx]; decide
theorem longB_blocks {kind : Int} {s : ByteArray} (hs : s.size ≤ 10000) : blocksOk (longB kind s).1 = true := by
  cases c : (longB kind s).2 with
  | true =>
    obtain ⟨hk, ht, e⟩ := longB_yes c
    rw [e]
    refine blocksOk_of fun x hx => ?_
    unfold longL at hx
    rcases List.mem_cons.1 hx with rfl | hx
    · rw [longHead hk hs, hdBlk_length (longHd_ok hk hs)]
    · rw [cutL_eq] at hx
      exact (cutB_length _ _ rfl).2 x hx
  | false =>
    unfold longB at c ⊢
    by_cases c2 : longOk kind (textB s) = true
    · rw [if_pos c2] at c; cases c
    · rw [if_neg c2]; rfl
theorem aheadB_blocks {a0 a1 : ByteArray} (h0 : a0.size ≤ 10000) (h1 : a1.size ≤ 10000) : blocksOk (aheadB a0 a1) = true := by
  unfold aheadB
  refine blocksOk_append ?_ ?_
  · by_cases c : (needsB a0 a1).2 = true
    · rw [if_pos c]; exact longB_blocks h1
    · rw [if_neg c]; rfl
  · by_cases c : (needsB a0 a1).1 = true
    · rw [if_pos c]; exact longB_blocks h0
    · rw [if_neg c]; rfl
theorem longB_none {kind : Int} {s : ByteArray} (h : (longB kind s).2 = false) : (longB kind s).1 = [] := by
  unfold longB at h ⊢
  by_cases c2 : longOk kind (textB s) = true
  · rw [if_pos c2] at h; cases h
  · rw [if_neg c2]
set_option maxHeartbeats 4000000 in
set_option maxRecDepth 100000 in
theorem LongAhead_walk (a0_0 a0_1 : ByteArray) (a0_2 a0_3 a0_4 a0_5 a0_6 : Int) (a0_7 : ByteArray) (w : World) (h0 : a0_0.size ≤ 400) (h1 : a0_1.size ≤ 400) (hfew : ∀ W, Calls Try.prog 16 #[.agg #[.string a0_0, .string a0_1, .int .u8 a0_2, .int .i64 a0_3, .int .i64 a0_4, .int .i64 a0_5, .int .i64 a0_6, .string a0_7]] W fun e w' => e = .returned (.bool true) ∧ Below W.heap.size W w') :
    Calls Try.prog 14 #[.agg #[.string a0_0, .string a0_1, .int .u8 a0_2, .int .i64 a0_3, .int .i64 a0_4, .int .i64 a0_5, .int .i64 a0_6, .string a0_7]] w fun e w' => e = .returned (.bool true) ∧ Below w.heap.size w w' := by
  have hup := fun W => awake5.at_ W
  have hp1 := longPut_f (kind := 75) (by decide) (s := a0_1) (by omega)
  have hp2 := longPut_f (kind := 76) (by decide) (s := a0_0) (by omega)
  have hl1 := longB_length (kind := 75) (s := a0_1) (by omega)
  have hl2 := longB_length (kind := 76) (s := a0_0) (by omega)
  have hn1 := longB_none (kind := 75) (s := a0_1)
  have hn2 := longB_none (kind := 76) (s := a0_0)
  have hneed := needs_b a0_0 a0_1 a0_2 a0_3 a0_4 a0_5 a0_6 a0_7 (by omega)
  have hah := ahead_f a0_0 a0_1 a0_2 a0_3 a0_4 a0_5 a0_6 a0_7 (by omega) (by omega)
  have hbl := aheadB_blocks (a0 := a0_0) (a1 := a0_1) (by omega) (by omega)
  unfold aheadB at hah hbl
  generalize longB 75 a0_1 = x1 at hp1 hl1 hn1 hah hbl
  generalize longB 76 a0_0 = x2 at hp2 hl2 hn2 hah hbl
  generalize needsB a0_0 a0_1 = x3 at hneed hah hbl
  obtain ⟨l1, i1⟩ := x1
  obtain ⟨l2, i2⟩ := x2
  obtain ⟨nm, lk⟩ := x3
  simp only at hl1 hl2 hn1 hn2 hah hbl
  -- what is wanted
  obtain ⟨la, ela⟩ : ∃ la, la = (if lk = true then l1 else []) := ⟨_, rfl⟩
  obtain ⟨lb, elb⟩ : ∃ lb, lb = (if nm = true then l2 else []) := ⟨_, rfl⟩
  rw [← ela, ← elb] at hah hbl
  have hahead := fun W => rows_alone (long_Ahead.calls a0_0 a0_1 a0_2 a0_3 a0_4 a0_5 a0_6 a0_7 (la ++ lb) W hah)
  have hneeds := fun W => long_Needs.calls a0_0 a0_1 a0_2 a0_3 a0_4 a0_5 a0_6 a0_7 nm lk W hneed
  have hput1 := fun W => put_fresh hp1 w.heap.size W
  have hput2 := fun W => put_fresh hp2 w.heap.size W
  have hself : reelkeeperref03_Same.f (la ++ lb) (la ++ lb) = some true := by unfold reelkeeperref03_Same.f; rw [sameF_self]
  have hmayf : block_May.f (la ++ lb) = some true := by unfold block_May.f; rw [hbl]
  have ELA := Aside0.mk ela
  have ELB := Aside0.mk elb
  have HL1 := Aside0.mk hl1
  have HL2 := Aside0.mk hl2
  have HN1 := Aside0.mk hn1
  have HN2 := Aside0.mk hn2
  clear hp1 hp2 hneed hah hbl ela elb hl1 hl2 hn1 hn2 h0 h1
  have HB0 := Aside0.mk (Below.refl w.heap.size w)
  have HB0 := Aside0.mk (below_alloc HB0.out (.cells #[.string a0_0, .string a0_1, .int .u8 a0_2, .int .i64 a0_3, .int .i64 a0_4, .int .i64 a0_5, .int .i64 a0_6, .string a0_7] 23))
  have HXn_0 := Aside0.mk (heap_alloc_new w (.cells #[.string a0_0, .string a0_1, .int .u8 a0_2, .int .i64 a0_3, .int .i64 a0_4, .int .i64 a0_5, .int .i64 a0_6, .string a0_7] 23))
  go_enter Try.func14, Try.ntmps14
  go_upto_region 10 with (first | (go_at_call 30; refine (hup _).mono ?_; rintro e w1 ⟨rfl, hb⟩; have HB1 := Aside0.mk (below_step (by repeat (first | exact HB0.out | apply below_alloc | apply pw_below_drewN | apply below_drew1)) hb); have HXn_1 := Aside0.mk (blk_below (by repeat (first | exact HXn_0.out | apply blk_alloc | apply blk_drewN | apply blk_drew)) hb); clear hb; have zn0_1 := (blk_cell HXn_1.out 0).trans (show _ = some (Value.string a0_0) from rfl); have zn1_1 := (blk_cell HXn_1.out 1).trans (show _ = some (Value.string a0_1) from rfl); have zn2_1 := (blk_cell HXn_1.out 2).trans (show _ = some (Value.int .u8 a0_2) from rfl); have zn3_1 := (blk_cell HXn_1.out 3).trans (show _ = some (Value.int .i64 a0_3) from rfl); have zn4_1 := (blk_cell HXn_1.out 4).trans (show _ = some (Value.int .i64 a0_4) from rfl); have zn5_1 := (blk_cell HXn_1.out 5).trans (show _ = some (Value.int .i64 a0_5) from rfl); have zn6_1 := (blk_cell HXn_1.out 6).trans (show _ = some (Value.int .i64 a0_6) from rfl); have zn7_1 := (blk_cell HXn_1.out 7).trans (show _ = some (Value.string a0_7) from rfl)) | (go_at_call 16; refine (hfew _).mono ?_; rintro e w2 ⟨rfl, hb⟩; have HB2 := Aside0.mk (below_step (by repeat (first | exact HB1.out | apply below_alloc | apply pw_below_drewN | apply below_drew1)) hb); have HXn_2 := Aside0.mk (blk_below (by repeat (first | exact HXn_1.out | apply blk_alloc | apply blk_drewN | apply blk_drew)) hb); clear hb; have zn0_2 := (blk_cell HXn_2.out 0).trans (show _ = some (Value.string a0_0) from rfl); have zn1_2 := (blk_cell HXn_2.out 1).trans (show _ = some (Value.string a0_1) from rfl); have zn2_2 := (blk_cell HXn_2.out 2).trans (show _ = some (Value.int .u8 a0_2) from rfl); have zn3_2 := (blk_cell HXn_2.out 3).trans (show _ = some (Value.int .i64 a0_3) from rfl); have zn4_2 := (blk_cell HXn_2.out 4).trans (show _ = some (Value.int .i64 a0_4) from rfl); have zn5_2 := (blk_cell HXn_2.out 5).trans (show _ = some (Value.int .i64 a0_5) from rfl); have zn6_2 := (blk_cell HXn_2.out 6).trans (show _ = some (Value.int .i64 a0_6) from rfl); have zn7_2 := (blk_cell HXn_2.out 7).trans (show _ = some (Value.string a0_7) from rfl)) | (go_at_call 38; refine (hahead _).mono ?_; rintro e w3 ⟨Ax, cx, rfl, HCx, HLx, hb⟩; have HB3 := Aside0.mk (below_step (by repeat (first | exact HB2.out | apply below_alloc | apply pw_below_drewN | apply below_drew1)) hb); have HXn_3 := Aside0.mk (blk_below (by repeat (first | exact HXn_2.out | apply blk_alloc | apply blk_drewN | apply blk_drew)) hb); clear hb; have zn0_3 := (blk_cell HXn_3.out 0).trans (show _ = some (Value.string a0_0) from rfl); have zn1_3 := (blk_cell HXn_3.out 1).trans (show _ = some (Value.string a0_1) from rfl); have zn2_3 := (blk_cell HXn_3.out 2).trans (show _ = some (Value.int .u8 a0_2) from rfl); have zn3_3 := (blk_cell HXn_3.out 3).trans (show _ = some (Value.int .i64 a0_3) from rfl); have zn4_3 := (blk_cell HXn_3.out 4).trans (show _ = some (Value.int .i64 a0_4) from rfl); have zn5_3 := (blk_cell HXn_3.out 5).trans (show _ = some (Value.int .i64 a0_5) from rfl); have zn6_3 := (blk_cell HXn_3.out 6).trans (show _ = some (Value.int .i64 a0_6) from rfl); have zn7_3 := (blk_cell HXn_3.out 7).trans (show _ = some (Value.string a0_7) from rfl)) | (go_at_call 33; refine (hneeds _).mono ?_; rintro e w4 ⟨rfl, hb⟩; have HB4 := Aside0.mk (below_step (by repeat (first | exact HB3.out | apply below_alloc | apply pw_below_drewN | apply below_drew1)) hb); have HXn_4 := Aside0.mk (blk_below (by repeat (first | exact HXn_3.out | apply blk_alloc | apply blk_drewN | apply blk_drew)) hb); have HCx := Aside0.mk (Kd.C_below HCx.out hb); clear hb; have zn0_4 := (blk_cell HXn_4.out 0).trans (show _ = some (Value.string a0_0) from rfl); have zn1_4 := (blk_cell HXn_4.out 1).trans (show _ = some (Value.string a0_1) from rfl); have zn2_4 := (blk_cell HXn_4.out 2).trans (show _ = some (Value.int .u8 a0_2) from rfl); have zn3_4 := (blk_cell HXn_4.out 3).trans (show _ = some (Value.int .i64 a0_3) from rfl); have zn4_4 := (blk_cell HXn_4.out 4).trans (show _ = some (Value.int .i64 a0_4) from rfl); have zn5_4 := (blk_cell HXn_4.out 5).trans (show _ = some (Value.int .i64 a0_5) from rfl); have zn6_4 := (blk_cell HXn_4.out 6).trans (show _ = some (Value.int .i64 a0_6) from rfl); have zn7_4 := (blk_cell HXn_4.out 7).trans (show _ = some (Value.string a0_7) from rfl)) | (have _t := HB5; go_at_call 31; (with_reducible refine (hput2 _ ?_).mono ?_); (exact HB5.out.size); rintro e w6 ⟨Ab, cb, rfl, HFb, hb⟩; have HB6 := Aside0.mk (below_step (by repeat (first | exact HB5.out | apply below_alloc | apply pw_below_drewN | apply below_drew1)) hb); have HXn_6 := Aside0.mk (blk_below (by repeat (first | exact HXn_5.out | apply blk_alloc | apply blk_drewN | apply blk_drew)) hb); have HCx := Aside0.mk (Kd.C_below HCx.out hb); have HFa := Aside0.mk (rows_later HFa.out hb); have HS5 := Aside0.mk hb.size; clear hb; have zn0_6 := (blk_cell HXn_6.out 0).trans (show _ = some (Value.string a0_0) from rfl); have zn1_6 := (blk_cell HXn_6.out 1).trans (show _ = some (Value.string a0_1) from rfl); have zn2_6 := (blk_cell HXn_6.out 2).trans (show _ = some (Value.int .u8 a0_2) from rfl); have zn3_6 := (blk_cell HXn_6.out 3).trans (show _ = some (Value.int .i64 a0_3) from rfl); have zn4_6 := (blk_cell HXn_6.out 4).trans (show _ = some (Value.int .i64 a0_4) from rfl); have zn5_6 := (blk_cell HXn_6.out 5).trans (show _ = some (Value.int .i64 a0_5) from rfl); have zn6_6 := (blk_cell HXn_6.out 6).trans (show _ = some (Value.int .i64 a0_6) from rfl); have zn7_6 := (blk_cell HXn_6.out 7).trans (show _ = some (Value.string a0_7) from rfl)) | (have _t := HB4; go_at_call 31; (with_reducible refine (hput1 _ ?_).mono ?_); (exact HB4.out.size); rintro e w5 ⟨Aa, ca, rfl, HFa, hb⟩; have HB5 := Aside0.mk (below_step (by repeat (first | exact HB4.out | apply below_alloc | apply pw_below_drewN | apply below_drew1)) hb); have HXn_5 := Aside0.mk (blk_below (by repeat (first | exact HXn_4.out | apply blk_alloc | apply blk_drewN | apply blk_drew)) hb); have HCx := Aside0.mk (Kd.C_below HCx.out hb); clear hb; have zn0_5 := (blk_cell HXn_5.out 0).trans (show _ = some (Value.string a0_0) from rfl); have zn1_5 := (blk_cell HXn_5.out 1).trans (show _ = some (Value.string a0_1) from rfl); have zn2_5 := (blk_cell HXn_5.out 2).trans (show _ = some (Value.int .u8 a0_2) from rfl); have zn3_5 := (blk_cell HXn_5.out 3).trans (show _ = some (Value.int .i64 a0_3) from rfl); have zn4_5 := (blk_cell HXn_5.out 4).trans (show _ = some (Value.int .i64 a0_4) from rfl); have zn5_5 := (blk_cell HXn_5.out 5).trans (show _ = some (Value.int .i64 a0_5) from rfl); have zn6_5 := (blk_cell HXn_5.out 6).trans (show _ = some (Value.int .i64 a0_6) from rfl); have zn7_5 := (blk_cell HXn_5.out 7).trans (show _ = some (Value.string a0_7) from rfl)))
  clear hup hfew hneeds hahead hput1 hput2
  cases lk with
  | false =>
    cases nm with
    | false =>
      have ela : [] = la := by have := ELA.out; simpa using this.symm
      have elb : [] = lb := by have := ELB.out; simpa using this.symm
      subst ela
      subst elb
      clear ELA ELB HN1 HN2
      have HBt := Aside0.mk (Below.refl w6.heap.size w6)
      go_upto_region 14 with (fail)
      skip
      have HCx9 := Aside0.mk (Kd.C_below HCx.out HBt.out)
      simp only [List.append_nil, List.nil_append] at hself hmayf HCx9 HLx
      have hsame := reelkeeperref03_Same.calls Ax cx [] none 0 [] true w6 HCx9.out HLx.out (Kd.C_nil _ _) (Nat.zero_le _) hself
      have hmay := fun nd => block_May.calls Ax cx [] true (w6.drewN nd) (Kd.C_drewN HCx9.out nd) HLx.out hmayf
      clear hself hmayf
      simp only [List.length_nil] at hsame hmay
      go_wp2_with (first | (go_at_call 37; refine hsame.mono ?_; rintro e w10 ⟨rfl, ⟨nd10, rfl⟩⟩) | (go_at_call 45; refine (hmay _).mono ?_; rintro e w11 ⟨rfl, ⟨nd11, rfl⟩⟩))
      go_ret
      exact ⟨rfl, (by repeat (first | exact HB6.out | apply pw_below_drewN | apply below_drew1))⟩
    | true =>
      cases i2 with
      | false =>
        have ela : [] = la := by have := ELA.out; simpa using this.symm
        have elb : [] = lb := by have := ELB.out; simpa [HN2.out rfl] using this.symm
        subst ela
        subst elb
        clear ELA ELB HN1 HN2
        have HBt := Aside0.mk (Below.refl w6.heap.size w6)
        go_upto_region 14 with (fail)
        skip
        have HCx9 := Aside0.mk (Kd.C_below HCx.out HBt.out)
        simp only [List.append_nil, List.nil_append] at hself hmayf HCx9 HLx
        have hsame := reelkeeperref03_Same.calls Ax cx [] none 0 [] true w6 HCx9.out HLx.out (Kd.C_nil _ _) (Nat.zero_le _) hself
        have hmay := fun nd => block_May.calls Ax cx [] true (w6.drewN nd) (Kd.C_drewN HCx9.out nd) HLx.out hmayf
        clear hself hmayf
        simp only [List.length_nil] at hsame hmay
        go_wp2_with (first | (go_at_call 37; refine hsame.mono ?_; rintro e w10 ⟨rfl, ⟨nd10, rfl⟩⟩) | (go_at_call 45; refine (hmay _).mono ?_; rintro e w11 ⟨rfl, ⟨nd11, rfl⟩⟩))
        go_ret
        exact ⟨rfl, (by repeat (first | exact HB6.out | apply pw_below_drewN | apply below_drew1))⟩
      | true =>
        have ela : [] = la := by have := ELA.out; simpa using this.symm
        have elb : l2 = lb := by have := ELB.out; simpa using this.symm
        subst ela
        subst elb
        clear ELA ELB HN1 HN2
        have HBt := Aside0.mk (Below.refl w6.heap.size w6)
        go_upto_region 13 with (fail)
        have hap : (([] : List (List Int)).length + l2.length) * 24 ≤ 140737488355328 := by have := HL1.out; have := HL2.out; simp; omega
        have hnk : ∀ k, (w5.heap.size ≤ k ∧ k < w6.heap.size) → True ∧ some k ≠ (Value.slice none 0 0).ownBlock := fun k hk => ⟨trivial, fun he => by cases he⟩
        go_upto_region 14 with (at_builtin; refine Kd.R_append_rows kRow (w0 := w) w.heap.size rfl (.tmp 54) (.tmp 55) 39 50 (.slice none 0 0) 24 rfl Try.underlying39 info50 rfl (by decide) (by decide) _ [] l2 Ab l2.length cb (fun _ => True) (fun k => w5.heap.size ≤ k ∧ k < w6.heap.size) rfl rfl (Kd.R_nil _ _ _ _ _) HFb.out (fun _ _ h => h) hnk (fun _ _ => trivial) HB6.out HB6.out.size hap ?_; intro v8 w8 hO hB hg hat)
        have hbt := HBt.out.trans ((Below.refl w6.heap.size w6).grown hg HBt.out.size (fun k e => by cases e))
        have HBt := Aside0.mk hbt
        have HB8 := Aside0.mk hB
        rw [List.nil_append] at hO
        have HO8 := Aside0.mk hO
        clear hO hB hg hat hap hnk hbt
        skip
        have HCx9 := Aside0.mk (Kd.C_below HCx.out HBt.out)
        obtain ⟨A9, c9, rfl, hc9, hC9⟩ := Kd.R_reads HO8.out
        simp only [List.append_nil, List.nil_append] at hself hmayf HCx9 HLx
        have hsame := reelkeeperref03_Same.calls Ax cx l2 A9 c9 l2 true w8 HCx9.out HLx.out hC9 hc9 hself
        have hmay := fun nd => block_May.calls Ax cx l2 true (w8.drewN nd) (Kd.C_drewN HCx9.out nd) HLx.out hmayf
        clear hself hmayf hC9 hc9
        go_wp2_with (first | (go_at_call 37; refine hsame.mono ?_; rintro e w10 ⟨rfl, ⟨nd10, rfl⟩⟩) | (go_at_call 45; refine (hmay _).mono ?_; rintro e w11 ⟨rfl, ⟨nd11, rfl⟩⟩))
        go_ret
        exact ⟨rfl, (by repeat (first | exact HB8.out | apply pw_below_drewN | apply below_drew1))⟩
  | true =>
    cases i1 with
    | false =>
      cases nm with
      | false =>
        have ela : [] = la := by have := ELA.out; simpa [HN1.out rfl] using this.symm
        have elb : [] = lb := by have := ELB.out; simpa using this.symm
        subst ela
        subst elb
        clear ELA ELB HN1 HN2
        have HBt := Aside0.mk (Below.refl w6.heap.size w6)
        go_upto_region 14 with (fail)
        skip
        have HCx9 := Aside0.mk (Kd.C_below HCx.out HBt.out)
        simp only [List.append_nil, List.nil_append] at hself hmayf HCx9 HLx
        have hsame := reelkeeperref03_Same.calls Ax cx [] none 0 [] true w6 HCx9.out HLx.out (Kd.C_nil _ _) (Nat.zero_le _) hself
        have hmay := fun nd => block_May.calls Ax cx [] true (w6.drewN nd) (Kd.C_drewN HCx9.out nd) HLx.out hmayf
        clear hself hmayf
        simp only [List.length_nil] at hsame hmay
        go_wp2_with (first | (go_at_call 37; refine hsame.mono ?_; rintro e w10 ⟨rfl, ⟨nd10, rfl⟩⟩) | (go_at_call 45; refine (hmay _).mono ?_; rintro e w11 ⟨rfl, ⟨nd11, rfl⟩⟩))
        go_ret
        exact ⟨rfl, (by repeat (first | exact HB6.out | apply pw_below_drewN | apply below_drew1))⟩
      | true =>
        cases i2 with
        | false =>
          have ela : [] = la := by have := ELA.out; simpa [HN1.out rfl] using this.symm
          have elb : [] = lb := by have := ELB.out; simpa [HN2.out rfl] using this.symm
          subst ela
          subst elb
          clear ELA ELB HN1 HN2
          have HBt := Aside0.mk (Below.refl w6.heap.size w6)
          go_upto_region 14 with (fail)
          skip
          have HCx9 := Aside0.mk (Kd.C_below HCx.out HBt.out)
          simp only [List.append_nil, List.nil_append] at hself hmayf HCx9 HLx
          have hsame := reelkeeperref03_Same.calls Ax cx [] none 0 [] true w6 HCx9.out HLx.out (Kd.C_nil _ _) (Nat.zero_le _) hself
          have hmay := fun nd => block_May.calls Ax cx [] true (w6.drewN nd) (Kd.C_drewN HCx9.out nd) HLx.out hmayf
          clear hself hmayf
          simp only [List.length_nil] at hsame hmay
          go_wp2_with (first | (go_at_call 37; refine hsame.mono ?_; rintro e w10 ⟨rfl, ⟨nd10, rfl⟩⟩) | (go_at_call 45; refine (hmay _).mono ?_; rintro e w11 ⟨rfl, ⟨nd11, rfl⟩⟩))
          go_ret
          exact ⟨rfl, (by repeat (first | exact HB6.out | apply pw_below_drewN | apply below_drew1))⟩
        | true =>
          have ela : [] = la := by have := ELA.out; simpa [HN1.out rfl] using this.symm
          have elb : l2 = lb := by have := ELB.out; simpa using this.symm
          subst ela
          subst elb
          clear ELA ELB HN1 HN2
          have HBt := Aside0.mk (Below.refl w6.heap.size w6)
          go_upto_region 13 with (fail)
          have hap : (([] : List (List Int)).length + l2.length) * 24 ≤ 140737488355328 := by have := HL1.out; have := HL2.out; simp; omega
          have hnk : ∀ k, (w5.heap.size ≤ k ∧ k < w6.heap.size) → True ∧ some k ≠ (Value.slice none 0 0).ownBlock := fun k hk => ⟨trivial, fun he => by cases he⟩
          go_upto_region 14 with (at_builtin; refine Kd.R_append_rows kRow (w0 := w) w.heap.size rfl (.tmp 54) (.tmp 55) 39 50 (.slice none 0 0) 24 rfl Try.underlying39 info50 rfl (by decide) (by decide) _ [] l2 Ab l2.length cb (fun _ => True) (fun k => w5.heap.size ≤ k ∧ k < w6.heap.size) rfl rfl (Kd.R_nil _ _ _ _ _) HFb.out (fun _ _ h => h) hnk (fun _ _ => trivial) HB6.out HB6.out.size hap ?_; intro v8 w8 hO hB hg hat)
          have hbt := HBt.out.trans ((Below.refl w6.heap.size w6).grown hg HBt.out.size (fun k e => by cases e))
          have HBt := Aside0.mk hbt
          have HB8 := Aside0.mk hB
          rw [List.nil_append] at hO
          have HO8 := Aside0.mk hO
          clear hO hB hg hat hap hnk hbt
          skip
          have HCx9 := Aside0.mk (Kd.C_below HCx.out HBt.out)
          obtain ⟨A9, c9, rfl, hc9, hC9⟩ := Kd.R_reads HO8.out
          simp only [List.append_nil, List.nil_append] at hself hmayf HCx9 HLx
          have hsame := reelkeeperref03_Same.calls Ax cx l2 A9 c9 l2 true w8 HCx9.out HLx.out hC9 hc9 hself
          have hmay := fun nd => block_May.calls Ax cx l2 true (w8.drewN nd) (Kd.C_drewN HCx9.out nd) HLx.out hmayf
          clear hself hmayf hC9 hc9
          go_wp2_with (first | (go_at_call 37; refine hsame.mono ?_; rintro e w10 ⟨rfl, ⟨nd10, rfl⟩⟩) | (go_at_call 45; refine (hmay _).mono ?_; rintro e w11 ⟨rfl, ⟨nd11, rfl⟩⟩))
          go_ret
          exact ⟨rfl, (by repeat (first | exact HB8.out | apply pw_below_drewN | apply below_drew1))⟩
    | true =>
      cases nm with
      | false =>
        have ela : l1 = la := by have := ELA.out; simpa using this.symm
        have elb : [] = lb := by have := ELB.out; simpa using this.symm
        subst ela
        subst elb
        clear ELA ELB HN1 HN2
        have HBt := Aside0.mk (Below.refl w6.heap.size w6)
        go_upto_region 11 with (fail)
        have hap : (([] : List (List Int)).length + l1.length) * 24 ≤ 140737488355328 := by have := HL1.out; simp; omega
        have hnk : ∀ k, (w4.heap.size ≤ k ∧ k < w5.heap.size) → True ∧ some k ≠ (Value.slice none 0 0).ownBlock := fun k hk => ⟨trivial, fun he => by cases he⟩
        go_upto_region 12 with (at_builtin; refine Kd.R_append_rows kRow (w0 := w) w.heap.size rfl (.tmp 47) (.tmp 48) 39 50 (.slice none 0 0) 24 rfl Try.underlying39 info50 rfl (by decide) (by decide) _ [] l1 Aa l1.length ca (fun _ => True) (fun k => w4.heap.size ≤ k ∧ k < w5.heap.size) rfl rfl (Kd.R_nil _ _ _ _ _) HFa.out (fun _ _ h => h) hnk (fun _ _ => trivial) HB6.out HB6.out.size hap ?_; intro v7 w7 hO hB hg hat)
        have hbt := (Below.refl w6.heap.size w6).grown hg (Nat.le_refl _) (fun k e => by cases e)
        have HFb := Aside0.mk (rows_later HFb.out hbt)
        have HBt := Aside0.mk hbt
        have HB7 := Aside0.mk hB
        rw [List.nil_append] at hO
        have HO7 := Aside0.mk hO
        have hown : ∀ k, v7.ownBlock = some k → w6.heap.size ≤ k := by
          intro k hk
          rcases hat with h | ⟨b, h1, h2⟩
          · rw [h] at hk; cases hk
          · rw [h1] at hk; cases hk; exact h2
        have HOWN := Aside0.mk hown
        clear hO hB hg hat hap hnk hbt hown
        go_upto_region 14 with (fail)
        skip
        have HCx9 := Aside0.mk (Kd.C_below HCx.out HBt.out)
        obtain ⟨A9, c9, rfl, hc9, hC9⟩ := Kd.R_reads HO7.out
        simp only [List.append_nil, List.nil_append] at hself hmayf HCx9 HLx
        have hsame := reelkeeperref03_Same.calls Ax cx l1 A9 c9 l1 true w7 HCx9.out HLx.out hC9 hc9 hself
        have hmay := fun nd => block_May.calls Ax cx l1 true (w7.drewN nd) (Kd.C_drewN HCx9.out nd) HLx.out hmayf
        clear hself hmayf hC9 hc9
        go_wp2_with (first | (go_at_call 37; refine hsame.mono ?_; rintro e w10 ⟨rfl, ⟨nd10, rfl⟩⟩) | (go_at_call 45; refine (hmay _).mono ?_; rintro e w11 ⟨rfl, ⟨nd11, rfl⟩⟩))
        go_ret
        exact ⟨rfl, (by repeat (first | exact HB7.out | apply pw_below_drewN | apply below_drew1))⟩
      | true =>
        cases i2 with
        | false =>
          have ela : l1 = la := by have := ELA.out; simpa using this.symm
          have elb : [] = lb := by have := ELB.out; simpa [HN2.out rfl] using this.symm
          subst ela
          subst elb
          clear ELA ELB HN1 HN2
          have HBt := Aside0.mk (Below.refl w6.heap.size w6)
          go_upto_region 11 with (fail)
          have hap : (([] : List (List Int)).length + l1.length) * 24 ≤ 140737488355328 := by have := HL1.out; simp; omega
          have hnk : ∀ k, (w4.heap.size ≤ k ∧ k < w5.heap.size) → True ∧ some k ≠ (Value.slice none 0 0).ownBlock := fun k hk => ⟨trivial, fun he => by cases he⟩
          go_upto_region 12 with (at_builtin; refine Kd.R_append_rows kRow (w0 := w) w.heap.size rfl (.tmp 47) (.tmp 48) 39 50 (.slice none 0 0) 24 rfl Try.underlying39 info50 rfl (by decide) (by decide) _ [] l1 Aa l1.length ca (fun _ => True) (fun k => w4.heap.size ≤ k ∧ k < w5.heap.size) rfl rfl (Kd.R_nil _ _ _ _ _) HFa.out (fun _ _ h => h) hnk (fun _ _ => trivial) HB6.out HB6.out.size hap ?_; intro v7 w7 hO hB hg hat)
          have hbt := (Below.refl w6.heap.size w6).grown hg (Nat.le_refl _) (fun k e => by cases e)
          have HFb := Aside0.mk (rows_later HFb.out hbt)
          have HBt := Aside0.mk hbt
          have HB7 := Aside0.mk hB
          rw [List.nil_append] at hO
          have HO7 := Aside0.mk hO
          have hown : ∀ k, v7.ownBlock = some k → w6.heap.size ≤ k := by
            intro k hk
            rcases hat with h | ⟨b, h1, h2⟩
            · rw [h] at hk; cases hk
            · rw [h1] at hk; cases hk; exact h2
          have HOWN := Aside0.mk hown
          clear hO hB hg hat hap hnk hbt hown
          go_upto_region 14 with (fail)
          skip
          have HCx9 := Aside0.mk (Kd.C_below HCx.out HBt.out)
          obtain ⟨A9, c9, rfl, hc9, hC9⟩ := Kd.R_reads HO7.out
          simp only [List.append_nil, List.nil_append] at hself hmayf HCx9 HLx
          have hsame := reelkeeperref03_Same.calls Ax cx l1 A9 c9 l1 true w7 HCx9.out HLx.out hC9 hc9 hself
          have hmay := fun nd => block_May.calls Ax cx l1 true (w7.drewN nd) (Kd.C_drewN HCx9.out nd) HLx.out hmayf
          clear hself hmayf hC9 hc9
          go_wp2_with (first | (go_at_call 37; refine hsame.mono ?_; rintro e w10 ⟨rfl, ⟨nd10, rfl⟩⟩) | (go_at_call 45; refine (hmay _).mono ?_; rintro e w11 ⟨rfl, ⟨nd11, rfl⟩⟩))
          go_ret
          exact ⟨rfl, (by repeat (first | exact HB7.out | apply pw_below_drewN | apply below_drew1))⟩
        | true =>
          have ela : l1 = la := by have := ELA.out; simpa using this.symm
          have elb : l2 = lb := by have := ELB.out; simpa using this.symm
          subst ela
          subst elb
          clear ELA ELB HN1 HN2
          have HBt := Aside0.mk (Below.refl w6.heap.size w6)
          go_upto_region 11 with (fail)
          have hap : (([] : List (List Int)).length + l1.length) * 24 ≤ 140737488355328 := by have := HL1.out; simp; omega
          have hnk : ∀ k, (w4.heap.size ≤ k ∧ k < w5.heap.size) → True ∧ some k ≠ (Value.slice none 0 0).ownBlock := fun k hk => ⟨trivial, fun he => by cases he⟩
          go_upto_region 12 with (at_builtin; refine Kd.R_append_rows kRow (w0 := w) w.heap.size rfl (.tmp 47) (.tmp 48) 39 50 (.slice none 0 0) 24 rfl Try.underlying39 info50 rfl (by decide) (by decide) _ [] l1 Aa l1.length ca (fun _ => True) (fun k => w4.heap.size ≤ k ∧ k < w5.heap.size) rfl rfl (Kd.R_nil _ _ _ _ _) HFa.out (fun _ _ h => h) hnk (fun _ _ => trivial) HB6.out HB6.out.size hap ?_; intro v7 w7 hO hB hg hat)
          have hbt := (Below.refl w6.heap.size w6).grown hg (Nat.le_refl _) (fun k e => by cases e)
          have HFb := Aside0.mk (rows_later HFb.out hbt)
          have HBt := Aside0.mk hbt
          have HB7 := Aside0.mk hB
          rw [List.nil_append] at hO
          have HO7 := Aside0.mk hO
          have hown : ∀ k, v7.ownBlock = some k → w6.heap.size ≤ k := by
            intro k hk
            rcases hat with h | ⟨b, h1, h2⟩
            · rw [h] at hk; cases hk
            · rw [h1] at hk; cases hk; exact h2
          have HOWN := Aside0.mk hown
          clear hO hB hg hat hap hnk hbt hown
          go_upto_region 13 with (fail)
          have hap : ((l1 : List (List Int)).length + l2.length) * 24 ≤ 140737488355328 := by have := HL1.out; have := HL2.out; simp; omega
          have hnk : ∀ k, (w5.heap.size ≤ k ∧ k < w6.heap.size) → True ∧ some k ≠ v7.ownBlock := fun k hk => ⟨trivial, fun he => by have := HOWN.out k he.symm; omega⟩
          go_upto_region 14 with (at_builtin; refine Kd.R_append_rows kRow (w0 := w) w.heap.size rfl (.tmp 54) (.tmp 55) 39 50 (.slice none 0 0) 24 rfl Try.underlying39 info50 rfl (by decide) (by decide) _ l1 l2 Ab l2.length cb (fun _ => True) (fun k => w5.heap.size ≤ k ∧ k < w6.heap.size) rfl rfl HO7.out HFb.out (fun _ _ h => h) hnk (fun _ _ => trivial) HB7.out HB7.out.size hap ?_; intro v8 w8 hO hB hg hat)
          have hbt := HBt.out.trans ((Below.refl w6.heap.size w7).grown hg HBt.out.size (fun k e => HOWN.out k e))
          have HBt := Aside0.mk hbt
          have HB8 := Aside0.mk hB
          skip
          have HO8 := Aside0.mk hO
          clear hO hB hg hat hap hnk hbt
          skip
          have HCx9 := Aside0.mk (Kd.C_below HCx.out HBt.out)
          obtain ⟨A9, c9, rfl, hc9, hC9⟩ := Kd.R_reads HO8.out
          have hsame := reelkeeperref03_Same.calls Ax cx (l1 ++ l2) A9 c9 (l1 ++ l2) true w8 HCx9.out HLx.out hC9 hc9 hself
          have hmay := fun nd => block_May.calls Ax cx (l1 ++ l2) true (w8.drewN nd) (Kd.C_drewN HCx9.out nd) HLx.out hmayf
          clear hself hmayf hC9 hc9
          simp only [List.length_append] at hsame hmay
          go_wp2_with (first | (go_at_call 37; refine hsame.mono ?_; rintro e w10 ⟨rfl, ⟨nd10, rfl⟩⟩) | (go_at_call 45; refine (hmay _).mono ?_; rintro e w11 ⟨rfl, ⟨nd11, rfl⟩⟩))
          go_ret
          exact ⟨rfl, (by repeat (first | exact HB8.out | apply pw_below_drewN | apply below_drew1))⟩
theorem reelkeeperlaw05_LongAhead.calls (k : Nat) (a0_0 a0_1 : ByteArray) (a0_2 a0_3 a0_4 a0_5 a0_6 : Int) (a0_7 : ByteArray) (r : Bool) (w : World) (h : reelkeeperlaw05_LongAhead.f k a0_0 a0_1 a0_2 a0_3 a0_4 a0_5 a0_6 a0_7 = some r) :
    Calls Try.prog 14 #[.agg #[.string a0_0, .string a0_1, .int .u8 a0_2, .int .i64 a0_3, .int .i64 a0_4, .int .i64 a0_5, .int .i64 a0_6, .string a0_7]] w fun e w' => e = .returned (.bool r) ∧ Below w.heap.size w w' := by
  obtain rfl : true = r := Option.some.inj h
  clear h
  have hfew := fun W => reelkeeperlaw05_Few.calls a0_0 a0_1 a0_2 a0_3 a0_4 a0_5 a0_6 a0_7 _ W (few5 ⟨a0_0, a0_1, a0_2, a0_3, a0_4, a0_5, a0_6, a0_7⟩)
  cases hn : okN ⟨a0_0, a0_1, a0_2, a0_3, a0_4, a0_5, a0_6, a0_7⟩ with
  | true =>
    obtain ⟨h0, h1, _⟩ := okN_iff.1 hn
    rw [hn] at hfew
    exact LongAhead_walk a0_0 a0_1 a0_2 a0_3 a0_4 a0_5 a0_6 a0_7 w h0 h1 hfew
  | false =>
    rw [hn] at hfew
    have hup := fun W => awake5.at_ W
    clear hn
    have HB0 := Aside0.mk (Below.refl w.heap.size w)
    have HB0 := Aside0.mk (below_alloc HB0.out (.cells #[.string a0_0, .string a0_1, .int .u8 a0_2, .int .i64 a0_3, .int .i64 a0_4, .int .i64 a0_5, .int .i64 a0_6, .string a0_7] 23))
    have HXn_0 := Aside0.mk (heap_alloc_new w (.cells #[.string a0_0, .string a0_1, .int .u8 a0_2, .int .i64 a0_3, .int .i64 a0_4, .int .i64 a0_5, .int .i64 a0_6, .string a0_7] 23))
    go_enter Try.func14, Try.ntmps14
    go_wp2_with (first | (go_at_call 30; refine (hup _).mono ?_; rintro e w1 ⟨rfl, hb⟩; have HB1 := Aside0.mk (below_step (by repeat (first | exact HB0.out | apply below_alloc | apply pw_below_drewN | apply below_drew1)) hb); have HXn_1 := Aside0.mk (blk_below (by repeat (first | exact HXn_0.out | apply blk_alloc | apply blk_drewN | apply blk_drew)) hb); clear hb; have zn0_1 := (blk_cell HXn_1.out 0).trans (show _ = some (Value.string a0_0) from rfl); have zn1_1 := (blk_cell HXn_1.out 1).trans (show _ = some (Value.string a0_1) from rfl); have zn2_1 := (blk_cell HXn_1.out 2).trans (show _ = some (Value.int .u8 a0_2) from rfl); have zn3_1 := (blk_cell HXn_1.out 3).trans (show _ = some (Value.int .i64 a0_3) from rfl); have zn4_1 := (blk_cell HXn_1.out 4).trans (show _ = some (Value.int .i64 a0_4) from rfl); have zn5_1 := (blk_cell HXn_1.out 5).trans (show _ = some (Value.int .i64 a0_5) from rfl); have zn6_1 := (blk_cell HXn_1.out 6).trans (show _ = some (Value.int .i64 a0_6) from rfl); have zn7_1 := (blk_cell HXn_1.out 7).trans (show _ = some (Value.string a0_7) from rfl)) | (go_at_call 16; refine (hfew _).mono ?_; rintro e w2 ⟨rfl, hb⟩; have HB2 := Aside0.mk (below_step (by repeat (first | exact HB1.out | apply below_alloc | apply pw_below_drewN | apply below_drew1)) hb); have HXn_2 := Aside0.mk (blk_below (by repeat (first | exact HXn_1.out | apply blk_alloc | apply blk_drewN | apply blk_drew)) hb); clear hb; have zn0_2 := (blk_cell HXn_2.out 0).trans (show _ = some (Value.string a0_0) from rfl); have zn1_2 := (blk_cell HXn_2.out 1).trans (show _ = some (Value.string a0_1) from rfl); have zn2_2 := (blk_cell HXn_2.out 2).trans (show _ = some (Value.int .u8 a0_2) from rfl); have zn3_2 := (blk_cell HXn_2.out 3).trans (show _ = some (Value.int .i64 a0_3) from rfl); have zn4_2 := (blk_cell HXn_2.out 4).trans (show _ = some (Value.int .i64 a0_4) from rfl); have zn5_2 := (blk_cell HXn_2.out 5).trans (show _ = some (Value.int .i64 a0_5) from rfl); have zn6_2 := (blk_cell HXn_2.out 6).trans (show _ = some (Value.int .i64 a0_6) from rfl); have zn7_2 := (blk_cell HXn_2.out 7).trans (show _ = some (Value.string a0_7) from rfl)))
    go_ret
    exact ⟨rfl, HB2.out⟩

end Go.Proofs.Ytddjnicmpgbcgaa.X
