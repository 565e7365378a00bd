import Derived.Test.YtekfgmpldgoglaaXK
import Derived.Test.YtekfgmpldgoglaaXGreelkeeperref03
import Derived.Test.YtekfgmpldgoglaaXGreelkeeperref04
import Derived.Test.YtekfgmpldgoglaaXGreelkeeperref05
import Derived.Test.YtekfgmpldgoglaaXGslices
import Derived.Test.YtekfgmpldgoglaaXreelkeeperref07Head
import Derived.Test.YtekfgmpldgoglaaYAll
import Derived.Laws.EntriesVeiled
import Derived.WalkSpells
namespace Go.Proofs.Ytekfgmpldgoglaa.X
open Go.RowKit Go.Proofs.YtekfgmpldgoglaaW.PrintWords Go.Proofs.YtekfgmpldgoglaaW.PrintLast Go.Proofs.YtekfgmpldgoglaaW.PrintMore
attribute [local go_sem] max2_int min2_int max_two min_two
set_option linter.unusedVariables false
set_option linter.unusedSimpArgs false

open Go.Proofs.YtekfgmpldgoglaaY
def reelkeeperref07_Put.f (k : Nat) (a0 a1 : ByteArray) (a2 a3 a4 a5 a6 : Int) (a7 : ByteArray) : Option (List (List Int) × Bool) :=
  (reelkeeperref07_Head.f k a0 a1 a2 a3 a4 a5 a6 a7).bind fun h => if h.2.2.2.2.2.2.2.2.2.2.2 = true then
    (reelkeeperref04_Put.f k h.1 h.2.1 h.2.2.1 h.2.2.2.1 h.2.2.2.2.1 h.2.2.2.2.2.1 h.2.2.2.2.2.2.1 h.2.2.2.2.2.2.2.1 h.2.2.2.2.2.2.2.2.1 h.2.2.2.2.2.2.2.2.2.1 h.2.2.2.2.2.2.2.2.2.2.1).bind fun p => (reelkeeperref05_Ahead.f k a0 a1 a2 a3 a4 a5 a6 a7).bind fun x => (reelkeeperref03_Cut.f k a7).bind fun c => if x.length + c.length ≤ 100000 then some (x ++ p.1 :: c, true) else none
  else some ([], false)
theorem reelkeeperref07_Put.mono : ∀ a0 a1 a2 a3 a4 a5 a6 a7 k, LeO (reelkeeperref07_Put.f k a0 a1 a2 a3 a4 a5 a6 a7) (reelkeeperref07_Put.f (k + 1) a0 a1 a2 a3 a4 a5 a6 a7) := by
  intro a0 a1 a2 a3 a4 a5 a6 a7 k
  unfold reelkeeperref07_Put.f
  exact LeO.bind (reelkeeperref07_Head.mono _ _ _ _ _ _ _ _ _) (fun h => LeO.ite (LeO.bind (reelkeeperref04_Put.mono _ _ _ _ _ _ _ _ _ _ _ _) (fun _ => LeO.bind (reelkeeperref05_Ahead.mono _ _ _ _ _ _ _ _ _) (fun _ => LeO.bind (reelkeeperref03_Cut.mono _ _) (fun _ => LeO.refl _)))) (LeO.refl _))
set_option maxHeartbeats 1600000 in
set_option maxRecDepth 100000 in
theorem reelkeeperref07_Put.calls (k : Nat) (a0 a1 : ByteArray) (a2 a3 a4 a5 a6 : Int) (a7 : ByteArray) (r1 : List (List Int)) (r2 : Bool) (w : World) (h : reelkeeperref07_Put.f k a0 a1 a2 a3 a4 a5 a6 a7 = some (r1, r2)) :
    Calls Try.prog 28 #[.agg #[.string a0, .string a1, .int .u8 a2, .int .i64 a3, .int .i64 a4, .int .i64 a5, .int .i64 a6, .string a7]] w fun e w' => ∃ v0_ : Value, e = .returned (.tuple #[v0_, .bool r2]) ∧ Kd.R kRow 41 w' w.heap.size (fun _ => True) v0_ r1 ∧ Below w.heap.size w w' := by
  unfold reelkeeperref07_Put.f at h
  replace h := Option.bind_eq_some_iff.1 h
  obtain ⟨⟨h0, h1, h2, h3, h4, h5, h6, h7, h8, h9, h10, is⟩, A1, h⟩ := h
  have hhead := fun W => reelkeeperref07_Head.calls k a0 a1 a2 a3 a4 a5 a6 a7 h0 h1 h2 h3 h4 h5 h6 h7 h8 h9 h10 is W A1
  clear A1
  cases is with
  | false =>
    simp only at h
    rw [if_neg (by decide)] at h
    obtain ⟨rfl, rfl⟩ := Prod.mk.inj (Option.some.inj h)
    clear h
    have HB0 := Aside0.mk (Below.refl w.heap.size w)
    have HB0 := Aside0.mk (below_alloc HB0.out (.cells #[.string a0, .string a1, .int .u8 a2, .int .i64 a3, .int .i64 a4, .int .i64 a5, .int .i64 a6, .string a7] 23))
    have HXn_0 := Aside0.mk (heap_alloc_new w (.cells #[.string a0, .string a1, .int .u8 a2, .int .i64 a3, .int .i64 a4, .int .i64 a5, .int .i64 a6, .string a7] 23))
    go_enter Try.func28, Try.ntmps28
    go_wp2_with (first | (go_at_call 26; refine (hhead _).mono ?_; rintro e w1 ⟨rfl, hb⟩; have HB1 := Aside0.mk (below_alloc (below_step HB0.out hb) (.cells #[.string h0, .string h1, .string h2, .int .i64 h3, .int .i64 h4, .int .i64 h5, .int .i64 h6, .int .i64 h7, .int .u8 h8, .int .i64 h9, .int .i64 h10] 37)); have HXn_1 := Aside0.mk (blk_alloc (blk_below HXn_0.out hb) (.cells #[.string h0, .string h1, .string h2, .int .i64 h3, .int .i64 h4, .int .i64 h5, .int .i64 h6, .int .i64 h7, .int .u8 h8, .int .i64 h9, .int .i64 h10] 37)); have HXh_1 := Aside0.mk (heap_alloc_new w1 (.cells #[.string h0, .string h1, .string h2, .int .i64 h3, .int .i64 h4, .int .i64 h5, .int .i64 h6, .int .i64 h7, .int .u8 h8, .int .i64 h9, .int .i64 h10] 37)); clear hb; obtain ⟨zn0_1, zn1_1, zn2_1, zn3_1, zn4_1, zn5_1, zn6_1, zn7_1⟩ := cells8 HXn_1.out; obtain ⟨zh0_1, zh1_1, zh2_1, zh3_1, zh4_1, zh5_1, zh6_1, zh7_1, zh8_1, zh9_1, zh10_1⟩ := cells11 HXh_1.out))
    go_ret2
    exact ⟨_, rfl, Kd.R_nil _ _ _ _ _, HB1.out⟩
  | true =>
  simp only at h
  rw [if_pos trivial] at h
  replace h := Option.bind_eq_some_iff.1 h
  obtain ⟨⟨hb0, ok0⟩, A2, h⟩ := h
  replace h := Option.bind_eq_some_iff.1 h
  obtain ⟨x, A3, h⟩ := h
  replace h := Option.bind_eq_some_iff.1 h
  obtain ⟨cu, A4, h⟩ := h
  have hlen0 : x.length + cu.length ≤ 100000 := by
    rcases Nat.lt_or_ge 100000 (x.length + cu.length) with c | c
    · rw [if_neg (by omega)] at h; cases h
    · exact c
  rw [if_pos hlen0] at h
  obtain ⟨rfl, rfl⟩ := Prod.mk.inj (Option.some.inj h)
  have hput : ∀ W, Calls Try.prog 35 #[.agg #[.string h0, .string h1, .string h2, .int .i64 h3, .int .i64 h4, .int .i64 h5, .int .i64 h6, .int .i64 h7, .int .u8 h8, .int .i64 h9, .int .i64 h10]] W fun e w' => ∃ A c, e = .returned (.tuple #[.slice A hb0.length c, .bool ok0]) ∧ Aside0 (Kd.R (Kd.int .u8) 5 w' W.heap.size (fun _ => True) (.slice A hb0.length c) hb0) ∧ Aside0 (Below W.heap.size W w') := fun W => (reelkeeperref04_Put.calls k h0 h1 h2 h3 h4 h5 h6 h7 h8 h9 h10 hb0 ok0 W A2).mono (by
    rintro e w' ⟨v, rfl, hR, hB⟩
    obtain ⟨A, c, rfl⟩ := Kd.R_slice hR
    exact ⟨A, c, rfl, ⟨hR⟩, ⟨hB⟩⟩)
  have hahead : ∀ W, Calls Try.prog 60 #[.agg #[.string a0, .string a1, .int .u8 a2, .int .i64 a3, .int .i64 a4, .int .i64 a5, .int .i64 a6, .string a7]] W fun e w' => ∃ A c, e = .returned (.slice A x.length c) ∧ Aside0 (Kd.R kRow 41 w' W.heap.size (fun _ => True) (.slice A x.length c) x) ∧ Aside0 (Below W.heap.size W w') := fun W => (reelkeeperref05_Ahead.calls k a0 a1 a2 a3 a4 a5 a6 a7 x W A3).mono (by
    rintro e w' ⟨v, rfl, hR, hB⟩
    obtain ⟨A, c, rfl⟩ := Kd.R_slice hR
    exact ⟨A, c, rfl, ⟨hR⟩, ⟨hB⟩⟩)
  have hcut : ∀ W, Calls Try.prog 61 #[.string a7] W fun e w' => ∃ A c, e = .returned (.slice A cu.length c) ∧ Aside0 (Kd.R kRow 41 w' W.heap.size (fun _ => True) (.slice A cu.length c) cu) ∧ Aside0 (Below W.heap.size W w') := fun W => (reelkeeperref03_Cut.calls k a7 cu W A4).mono (by
    rintro e w' ⟨v, rfl, hR, hB⟩
    obtain ⟨A, c, rfl⟩ := Kd.R_slice hR
    exact ⟨A, c, rfl, ⟨hR⟩, ⟨hB⟩⟩)
  have HLEN := Aside0.mk hlen0
  clear A2 A3 A4 h hlen0
  have HB0 := Aside0.mk (Below.refl w.heap.size w)
  have HB0 := Aside0.mk (below_alloc HB0.out (.cells #[.string a0, .string a1, .int .u8 a2, .int .i64 a3, .int .i64 a4, .int .i64 a5, .int .i64 a6, .string a7] 23))
  have HXn_0 := Aside0.mk (heap_alloc_new w (.cells #[.string a0, .string a1, .int .u8 a2, .int .i64 a3, .int .i64 a4, .int .i64 a5, .int .i64 a6, .string a7] 23))
  go_enter Try.func28, Try.ntmps28
  go_upto_region 6 with (first | (go_at_call 26; refine (hhead _).mono ?_; rintro e w1 ⟨rfl, hb⟩; have HB1 := Aside0.mk (below_alloc (below_step HB0.out hb) (.cells #[.string h0, .string h1, .string h2, .int .i64 h3, .int .i64 h4, .int .i64 h5, .int .i64 h6, .int .i64 h7, .int .u8 h8, .int .i64 h9, .int .i64 h10] 37)); have HXn_1 := Aside0.mk (blk_alloc (blk_below HXn_0.out hb) (.cells #[.string h0, .string h1, .string h2, .int .i64 h3, .int .i64 h4, .int .i64 h5, .int .i64 h6, .int .i64 h7, .int .u8 h8, .int .i64 h9, .int .i64 h10] 37)); have HXh_1 := Aside0.mk (heap_alloc_new w1 (.cells #[.string h0, .string h1, .string h2, .int .i64 h3, .int .i64 h4, .int .i64 h5, .int .i64 h6, .int .i64 h7, .int .u8 h8, .int .i64 h9, .int .i64 h10] 37)); clear hb; obtain ⟨zn0_1, zn1_1, zn2_1, zn3_1, zn4_1, zn5_1, zn6_1, zn7_1⟩ := cells8 HXn_1.out; obtain ⟨zh0_1, zh1_1, zh2_1, zh3_1, zh4_1, zh5_1, zh6_1, zh7_1, zh8_1, zh9_1, zh10_1⟩ := cells11 HXh_1.out) | (go_at_call 35; refine (hput _).mono ?_; rintro e w2 ⟨Ab, cb, rfl, HRb, hb⟩; have HB2 := Aside0.mk (below_step HB1.out hb.out); have HXn_2 := Aside0.mk (blk_below HXn_1.out hb.out); clear hb; obtain ⟨zn0_2, zn1_2, zn2_2, zn3_2, zn4_2, zn5_2, zn6_2, zn7_2⟩ := cells8 HXn_2.out) | (go_at_call 60; refine (hahead _).mono ?_; rintro e w3 ⟨Ax, cx, rfl, HRx, hb⟩; have HB3 := Aside0.mk (below_step HB2.out hb.out); have HXn_3 := Aside0.mk (blk_below HXn_2.out hb.out); have HM := Aside0.mk (Kd.R_below (Kd.R_lower (base' := w.heap.size) (Kd.R_mono (Kd.R_bound HRb.out) (fun k hk => hk.2.2.1)) HB1.out.size) hb.out); have HNK := Aside0.mk (show ∀ k, k < w2.heap.size → True ∧ some k ≠ (Value.slice Ax x.length cx).ownBlock from fun k hk => ⟨trivial, fun he => by have := Kd.R_base HRx.out k he.symm; omega⟩); have HRX := Aside0.mk (Kd.R_lower (base' := w.heap.size) HRx.out HB2.out.size); clear hb) | (at_builtin; refine Kd.R_append kRow (w0 := w) (W := w3) w.heap.size rfl (.tmp 22) (.tmp 24) 24 41 (.slice none 0 0) 24 rfl Try.underlying24 info41 rfl (by decide) (by decide) _ x hb0 [.slice Ab hb0.length cb] (fun _ => True) (fun k => k < w2.heap.size) rfl rfl ⟨_, rfl, HM.out⟩ HNK.out (fun _ _ => trivial) HRX.out HB3.out HB3.out.size (by have := HLEN.out; omega) ?_; intro v1 w4 hO hB hg hat; have HXn_4 := Aside0.mk (blk_grown HXn_3.out hg (fun he => by have h8 := Kd.R_base HRx.out _ he.symm; have h9 := blk_lt HXn_2.out; omega)); have HO4 := Aside0.mk hO; have HB4 := Aside0.mk hB; clear hO hB hg hat; obtain ⟨zn0_4, zn1_4, zn2_4, zn3_4, zn4_4, zn5_4, zn6_4, zn7_4⟩ := cells8 HXn_4.out))
  clear hhead hput hahead HB0 HXn_0
  go_wp2_with (first | (go_at_call 61; refine (hcut _).mono ?_; rintro e w5 ⟨Ac, cc, rfl, HRc, hb⟩; have HB5 := Aside0.mk (below_step HB4.out hb.out); obtain ⟨A6, c6, hv6, hfr⟩ := kRow_fresh HRc.out (b := w.heap.size) HB4.out.size; injection hv6 with e1 e2 e3; subst e1 e3; have HFR := Aside0.mk hfr; have HO5 := Aside0.mk (Kd.R_below HO4.out hb.out); have HNK5 := Aside0.mk (show ∀ k, w4.heap.size ≤ k → True ∧ some k ≠ v1.ownBlock from fun k hk => ⟨trivial, fun he => by have := own_lt HO4.out k he.symm; omega⟩); clear hb hfr e2) | (at_builtin; refine Kd.R_append_rows kRow (w0 := w) w.heap.size rfl (.tmp 26) (.tmp 29) 24 41 (.slice none 0 0) 24 rfl Try.underlying24 info41 rfl (by decide) (by decide) _ (x ++ [hb0]) cu Ac cu.length cc (fun _ => True) (fun k => w4.heap.size ≤ k) rfl rfl HO5.out HFR.out (fun _ _ h => h) HNK5.out (fun _ _ => trivial) HB5.out HB5.out.size (by have := HLEN.out; rw [List.length_append]; show (x.length + 1 + cu.length) * 24 ≤ _; omega) ?_; intro v6 w6 hO hB hg hat; clear hg hat))
  go_ret2
  refine ⟨_, rfl, ?_, hB⟩
  rw [List.append_assoc] at hO
  exact hO

end Go.Proofs.Ytekfgmpldgoglaa.X
