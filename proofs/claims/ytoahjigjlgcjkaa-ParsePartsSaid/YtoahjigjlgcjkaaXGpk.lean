import Derived.Test.YtoahjigjlgcjkaaXK
import Derived.Test.YtoahjigjlgcjkaaXGhead
import Derived.Test.YtoahjigjlgcjkaaXGpa
import Derived.Test.YtoahjigjlgcjkaaXGpg
import Derived.Test.YtoahjigjlgcjkaaXGpj
import Derived.Test.YtoahjigjlgcjkaaXGpmay
import Derived.Test.YtoahjigjlgcjkaaXparseSame
import Derived.Test.YtoahjigjlgcjkaaYAll
import Derived.Test.YtoahjigjlgcjkaaP04g
import Derived.Test.YtoahjigjlgcjkaaP09a
import Derived.Test.YtoahjigjlgcjkaaPGA
import Derived.Test.YtoahjigjlgcjkaaPGE
import Derived.Deep.RegionHeld3
import Derived.Laws.EntriesVeiled
import Derived.WalkSpells
namespace Go.Proofs.Ytoahjigjlgcjkaa.X
open Go.RowKit Go.Proofs.YtoahjigjlgcjkaaW.PrintWords Go.Proofs.YtoahjigjlgcjkaaW.PrintLast Go.Proofs.YtoahjigjlgcjkaaW.PrintMore
attribute [local go_sem] max2_int min2_int max_two min_two
set_option linter.unusedVariables false
set_option linter.unusedSimpArgs false

open Go.Proofs.YtoahjigjlgcjkaaY
set_option maxRecDepth 100000
theorem few_st {s : Pst} (h : fewS s = true) : StOk s := by
  obtain ⟨h1, h2, h3, h4, _⟩ := fewS_ok h
  exact ⟨by omega, by omega, by omega, by omega⟩
theorem rows3 {W : World} {g : Nat} {A : Option Addr} {x : List Int} (h : W.heap[g]? = some (.cells #[.slice A 512 512, .slice A 512 512, .slice A 512 512] 26 (0, 0))) (hx : x.length = 512) (hC : Kd.C (Kd.int .u8) W A x.length x) : Kd.C (Kd.slice 5 (Kd.int .u8)) W (some ⟨g, 0, none⟩) [x, x, x].length [x, x, x] := by
  refine ⟨rfl, by simp, fun _ => ⟨_, rfl, fun j p hp => ?_⟩⟩
  have hp' : p = x ∧ j < 3 := by
    match j, hp with
    | 0, hp => exact ⟨(Option.some.inj hp).symm, by decide⟩
    | 1, hp => exact ⟨(Option.some.inj hp).symm, by decide⟩
    | 2, hp => exact ⟨(Option.some.inj hp).symm, by decide⟩
    | j + 3, hp => simp at hp
  obtain ⟨rfl, hj⟩ := hp'
  refine ⟨[.slice A 512 512], rfl, ⟨A, 512, by rw [hx], by rw [hx]; exact Nat.le_refl _, hC⟩, fun i u hu => ?_⟩
  have hi : i = 0 ∧ u = .slice A 512 512 := by
    match i, hu with
    | 0, hu => exact ⟨rfl, (Option.some.inj hu).symm⟩
    | i + 1, hu => simp at hu
  obtain ⟨rfl, rfl⟩ := hi
  rw [add_plain, blk_cell h]
  match j, hj with
  | 0, _ => rfl
  | 1, _ => rfl
  | 2, _ => rfl
theorem make512 (W : World) : (Instr.makeSlice 26 (.int .i64 512) (.int .i64 512)).run Try.prog W = .ok (.slice (some ⟨W.heap.size, 0, none⟩) 512 512) (W.alloc (.cells (nums .u8 z512).toArray 5)) := by
  obtain ⟨i0, hi, hz0, hz1, hz2⟩ := info_parts info5
  have := run_make (P := Try.prog) W 26 5 i0 (.int .u8 0) Try.underlying26 hi hz0 .i64 .i64 512 512 (by decide) (by decide) (by rw [hz2]; decide) (by decide)
  rw [this, hz1]
  show Result.ok _ (W.alloc (.cells (madeCells #[Value.int .u8 0] 512) _)) = _
  rw [made_nums]
  rfl
theorem z512_by : ∀ y ∈ z512, 0 ≤ y ∧ y ≤ 255 := fun y hy => by
  have := List.eq_of_mem_replicate hy
  subst this
  exact ⟨by decide, by decide⟩
set_option maxHeartbeats 3200000 in
theorem awake9.at_ (w : World) : Calls Try.prog 10 #[] w fun e w' => e = .returned (.bool true) ∧ Below w.heap.size w w' := by
  have hmk := make512
  have HB1 := Aside0.mk (below_alloc (Below.refl w.heap.size w) (.cells (nums .u8 z512).toArray 5))
  have hC1 := C_block (x := z512) (heap_alloc_new w (.cells (nums .u8 z512).toArray 5)) (by rw [z512_len]; decide)
  have HC1 := Aside0.mk hC1
  clear hC1
  generalize hz : nums .u8 z512 = Z at *
  clear hz
  go_enter Try.func10, Try.ntmps10
  go_upto_region 2 with (fail)
  obtain ⟨W1, hW1⟩ : ∃ W', w.alloc (.cells Z.toArray 5) = W' := ⟨_, rfl⟩
  rw [hW1] at HB1 HC1 ⊢
  clear hW1 hmk
  have HB2 := Aside0.mk (below_alloc HB1.out (.cells #[.slice (some ⟨w.heap.size, 0, none⟩) 512 512, .slice (some ⟨w.heap.size, 0, none⟩) 512 512, .slice (some ⟨w.heap.size, 0, none⟩) 512 512] 26))
  have HC2 := Aside0.mk (Kd.C_alloc HC1.out (.cells #[.slice (some ⟨w.heap.size, 0, none⟩) 512 512, .slice (some ⟨w.heap.size, 0, none⟩) 512 512, .slice (some ⟨w.heap.size, 0, none⟩) 512 512] 26))
  have hR2 := rows3 (heap_alloc_new W1 (.cells #[.slice (some ⟨w.heap.size, 0, none⟩) 512 512, .slice (some ⟨w.heap.size, 0, none⟩) 512 512, .slice (some ⟨w.heap.size, 0, none⟩) 512 512] 26)) z512_len HC2.out
  have hrun : Calls Try.prog 15 #[.agg #[.int .i64 0, .string ⟨#[]⟩, .string ⟨#[]⟩, .int .u8 0, .int .i64 0, .int .i64 0, .int .i64 0, .int .i64 0, .string ⟨#[]⟩, .int .i64 0, .int .i64 0, .string ⟨#[]⟩, .string ⟨#[]⟩, .string ⟨#[]⟩], .slice (some ⟨W1.heap.size, 0, none⟩) 3 3] (W1.alloc (.cells #[.slice (some ⟨w.heap.size, 0, none⟩) 512 512, .slice (some ⟨w.heap.size, 0, none⟩) 512 512, .slice (some ⟨w.heap.size, 0, none⟩) 512 512] 26)) fun e w' => ∃ A c, e = .returned (.tuple #[.agg #[.int .i64 5, .string ⟨#[]⟩, .string ⟨#[]⟩, .int .u8 0, .int .i64 0, .int .i64 0, .int .i64 0, .int .i64 0, .string ⟨#[]⟩, .int .i64 0, .int .i64 0, .string ⟨#[]⟩, .string ⟨#[]⟩, .string ⟨#[]⟩], .slice A 0 c, .int .i64 2, .int .i64 0]) ∧ Aside0 (Kd.R k39 39 w' (W1.alloc (.cells #[.slice (some ⟨w.heap.size, 0, none⟩) 512 512, .slice (some ⟨w.heap.size, 0, none⟩) 512 512, .slice (some ⟨w.heap.size, 0, none⟩) 512 512] 26)).heap.size (fun _ => True) (.slice A 0 c) []) ∧ Below (W1.alloc (.cells #[.slice (some ⟨w.heap.size, 0, none⟩) 512 512, .slice (some ⟨w.heap.size, 0, none⟩) 512 512, .slice (some ⟨w.heap.size, 0, none⟩) 512 512] 26)).heap.size (W1.alloc (.cells #[.slice (some ⟨w.heap.size, 0, none⟩) 512 512, .slice (some ⟨w.heap.size, 0, none⟩) 512 512, .slice (some ⟨w.heap.size, 0, none⟩) 512 512] 26)) w' := by
    have h_ := parse_Run.at_ (zst 0) st0_ok (some ⟨W1.heap.size, 0, none⟩) 3 [z512, z512, z512] (by decide) (W1.alloc (.cells #[.slice (some ⟨w.heap.size, 0, none⟩) 512 512, .slice (some ⟨w.heap.size, 0, none⟩) 512 512, .slice (some ⟨w.heap.size, 0, none⟩) 512 512] 26)) hR2 (by decide) (fun x hx y hy => by
      have hx2 : x = z512 := by simpa using hx
      subst hx2
      exact z512_by y hy)
    rw [run_z] at h_
    exact h_
  have hstep : ∀ W, Kd.C (Kd.int .u8) W (some ⟨w.heap.size, 0, none⟩) z512.length z512 → Calls Try.prog 12 #[.agg #[.int .i64 5, .string ⟨#[]⟩, .string ⟨#[]⟩, .int .u8 0, .int .i64 0, .int .i64 0, .int .i64 0, .int .i64 0, .string ⟨#[]⟩, .int .i64 0, .int .i64 0, .string ⟨#[]⟩, .string ⟨#[]⟩, .string ⟨#[]⟩], .slice (some ⟨w.heap.size, 0, none⟩) 512 512] W fun e w' => ∃ A c, e = .returned (.tuple #[.agg #[.int .i64 5, .string ⟨#[]⟩, .string ⟨#[]⟩, .int .u8 0, .int .i64 0, .int .i64 0, .int .i64 0, .int .i64 0, .string ⟨#[]⟩, .int .i64 0, .int .i64 0, .string ⟨#[]⟩, .string ⟨#[]⟩, .string ⟨#[]⟩], .slice A 0 c, .int .i64 17]) ∧ Aside0 (Kd.R k39 39 w' W.heap.size (fun _ => True) (.slice A 0 c) []) ∧ Below W.heap.size W w' := fun W hC => by
    have h_ := parse_Step.at_ (zst 5) ⟨by decide, by decide, by decide, by decide⟩ (some ⟨w.heap.size, 0, none⟩) 512 z512 W hC (by rw [z512_len]; exact Nat.le_refl _) z512_by
    rw [step_z5 z512_len, z512_len] at h_
    exact h_
  have hmay : ∀ W, Calls Try.prog 13 #[.agg #[.int .i64 5, .string ⟨#[]⟩, .string ⟨#[]⟩, .int .u8 0, .int .i64 0, .int .i64 0, .int .i64 0, .int .i64 0, .string ⟨#[]⟩, .int .i64 0, .int .i64 0, .string ⟨#[]⟩, .string ⟨#[]⟩, .string ⟨#[]⟩]] W fun e w' => e = .returned (.bool true) ∧ Below W.heap.size W w' := fun W => by
    have h_ := parse_May.at_ (zst 5) (by decide) (by decide) W
    rw [zst_may (.inr (.inr rfl))] at h_
    exact h_
  have hsame := fun W A c hA => parse_Same.calls 1 A c ([] : List Evt) none 0 [] true W hA (Nat.zero_le _) (Kd.R_reads' (Kd.R_nil k39 39 W 0 (fun _ => True))).2.2 (Nat.le_refl _) rfl
  clear hR2
  go_upto_region 3 with (go_at_call 15; refine hrun.mono ?_; rintro e_ w2 ⟨A, c, rfl, hR, hb_⟩; have HB3 := Aside0.mk (below_alloc (below_step HB2.out hb_) (.cells #[.int .i64 5, .string ⟨#[]⟩, .string ⟨#[]⟩, .int .u8 0, .int .i64 0, .int .i64 0, .int .i64 0, .int .i64 0, .string ⟨#[]⟩, .int .i64 0, .int .i64 0, .string ⟨#[]⟩, .string ⟨#[]⟩, .string ⟨#[]⟩] 25)); have HC3 := Aside0.mk (Kd.C_alloc (Kd.C_below HC2.out hb_) (.cells #[.int .i64 5, .string ⟨#[]⟩, .string ⟨#[]⟩, .int .u8 0, .int .i64 0, .int .i64 0, .int .i64 0, .int .i64 0, .string ⟨#[]⟩, .int .i64 0, .int .i64 0, .string ⟨#[]⟩, .string ⟨#[]⟩, .string ⟨#[]⟩] 25)); have HS3 := Aside0.mk (heap_alloc_new w2 (.cells #[.int .i64 5, .string ⟨#[]⟩, .string ⟨#[]⟩, .int .u8 0, .int .i64 0, .int .i64 0, .int .i64 0, .int .i64 0, .string ⟨#[]⟩, .int .i64 0, .int .i64 0, .string ⟨#[]⟩, .string ⟨#[]⟩, .string ⟨#[]⟩] 25)); have HR3 := Aside0.mk (Kd.R_alloc hR.out (.cells #[.int .i64 5, .string ⟨#[]⟩, .string ⟨#[]⟩, .int .u8 0, .int .i64 0, .int .i64 0, .int .i64 0, .int .i64 0, .string ⟨#[]⟩, .int .i64 0, .int .i64 0, .string ⟨#[]⟩, .string ⟨#[]⟩, .string ⟨#[]⟩] 25)); clear hb_ hR)
  obtain ⟨W3, hW3⟩ : ∃ W', w2.alloc (.cells #[.int .i64 5, .string ⟨#[]⟩, .string ⟨#[]⟩, .int .u8 0, .int .i64 0, .int .i64 0, .int .i64 0, .int .i64 0, .string ⟨#[]⟩, .int .i64 0, .int .i64 0, .string ⟨#[]⟩, .string ⟨#[]⟩, .string ⟨#[]⟩] 25) = W' := ⟨_, rfl⟩
  rw [hW3] at HB3 HC3 HS3 HR3 ⊢
  obtain ⟨b3, hb3⟩ : ∃ k, w2.heap.size = k := ⟨_, rfl⟩
  rw [hb3] at HS3 ⊢
  clear hW3 hb3
  have z0 := (blk_cell HS3.out 0).trans (show _ = some (Value.int .i64 5) from rfl)
  have z1 := (blk_cell HS3.out 1).trans (show _ = some (Value.string ⟨#[]⟩) from rfl)
  have z2 := (blk_cell HS3.out 2).trans (show _ = some (Value.string ⟨#[]⟩) from rfl)
  have z3 := (blk_cell HS3.out 3).trans (show _ = some (Value.int .u8 0) from rfl)
  have z4 := (blk_cell HS3.out 4).trans (show _ = some (Value.int .i64 0) from rfl)
  have z5 := (blk_cell HS3.out 5).trans (show _ = some (Value.int .i64 0) from rfl)
  have z6 := (blk_cell HS3.out 6).trans (show _ = some (Value.int .i64 0) from rfl)
  have z7 := (blk_cell HS3.out 7).trans (show _ = some (Value.int .i64 0) from rfl)
  have z8 := (blk_cell HS3.out 8).trans (show _ = some (Value.string ⟨#[]⟩) from rfl)
  have z9 := (blk_cell HS3.out 9).trans (show _ = some (Value.int .i64 0) from rfl)
  have z10 := (blk_cell HS3.out 10).trans (show _ = some (Value.int .i64 0) from rfl)
  have z11 := (blk_cell HS3.out 11).trans (show _ = some (Value.string ⟨#[]⟩) from rfl)
  have z12 := (blk_cell HS3.out 12).trans (show _ = some (Value.string ⟨#[]⟩) from rfl)
  have z13 := (blk_cell HS3.out 13).trans (show _ = some (Value.string ⟨#[]⟩) from rfl)
  go_upto_region 4 with (go_at_call 12; refine (hstep _ HC3.out).mono ?_; rintro e_ w4 ⟨A4, c4, rfl, hR, hb_⟩; have HB4 := Aside0.mk (below_alloc (below_step HB3.out hb_) (.cells #[.int .i64 5, .string ⟨#[]⟩, .string ⟨#[]⟩, .int .u8 0, .int .i64 0, .int .i64 0, .int .i64 0, .int .i64 0, .string ⟨#[]⟩, .int .i64 0, .int .i64 0, .string ⟨#[]⟩, .string ⟨#[]⟩, .string ⟨#[]⟩] 25)); have HS4 := Aside0.mk (blk_alloc (blk_below HS3.out hb_) (.cells #[.int .i64 5, .string ⟨#[]⟩, .string ⟨#[]⟩, .int .u8 0, .int .i64 0, .int .i64 0, .int .i64 0, .int .i64 0, .string ⟨#[]⟩, .int .i64 0, .int .i64 0, .string ⟨#[]⟩, .string ⟨#[]⟩, .string ⟨#[]⟩] 25)); have HR4 := Aside0.mk (Kd.R_alloc (Kd.R_below HR3.out hb_) (.cells #[.int .i64 5, .string ⟨#[]⟩, .string ⟨#[]⟩, .int .u8 0, .int .i64 0, .int .i64 0, .int .i64 0, .int .i64 0, .string ⟨#[]⟩, .int .i64 0, .int .i64 0, .string ⟨#[]⟩, .string ⟨#[]⟩, .string ⟨#[]⟩] 25)); clear hb_ hR z0 z1 z2 z3 z4 z5 z6 z7 z8 z9 z10 z11 z12 z13)
  have z0 := (blk_cell HS4.out 0).trans (show _ = some (Value.int .i64 5) from rfl)
  have z1 := (blk_cell HS4.out 1).trans (show _ = some (Value.string ⟨#[]⟩) from rfl)
  have z2 := (blk_cell HS4.out 2).trans (show _ = some (Value.string ⟨#[]⟩) from rfl)
  have z3 := (blk_cell HS4.out 3).trans (show _ = some (Value.int .u8 0) from rfl)
  have z4 := (blk_cell HS4.out 4).trans (show _ = some (Value.int .i64 0) from rfl)
  have z5 := (blk_cell HS4.out 5).trans (show _ = some (Value.int .i64 0) from rfl)
  have z6 := (blk_cell HS4.out 6).trans (show _ = some (Value.int .i64 0) from rfl)
  have z7 := (blk_cell HS4.out 7).trans (show _ = some (Value.int .i64 0) from rfl)
  have z8 := (blk_cell HS4.out 8).trans (show _ = some (Value.string ⟨#[]⟩) from rfl)
  have z9 := (blk_cell HS4.out 9).trans (show _ = some (Value.int .i64 0) from rfl)
  have z10 := (blk_cell HS4.out 10).trans (show _ = some (Value.int .i64 0) from rfl)
  have z11 := (blk_cell HS4.out 11).trans (show _ = some (Value.string ⟨#[]⟩) from rfl)
  have z12 := (blk_cell HS4.out 12).trans (show _ = some (Value.string ⟨#[]⟩) from rfl)
  have z13 := (blk_cell HS4.out 13).trans (show _ = some (Value.string ⟨#[]⟩) from rfl)
  go_wp2_with (first | (go_at_call 13; refine (hmay _).mono ?_; rintro e_ w5 ⟨rfl, hb_⟩; have HB5 := Aside0.mk (below_step HB4.out hb_); have HR5 := Aside0.mk (Kd.R_below HR4.out hb_); clear hb_) | (go_at_call 19; refine (hsame _ _ _ (Kd.R_reads' HR5.out).2.2).mono ?_; rintro e_ w6 ⟨rfl, hd_⟩; have hb_ := Drawn0.below hd_; have HB6 := Aside0.mk (below_step HB5.out hb_); clear hd_ hb_))
  go_ret
  exact ⟨rfl, HB6.out⟩

end Go.Proofs.Ytoahjigjlgcjkaa.X
