import Derived.Test.YtpedagpcblnnhaaGreatXK
import Derived.Test.YtpedagpcblnnhaaGreatXGhead
import Derived.Test.YtpedagpcblnnhaaGreatXGpa
import Derived.Test.YtpedagpcblnnhaaGreatXGpj
import Derived.Test.YtpedagpcblnnhaaGreatXGrb
import Derived.Test.YtpedagpcblnnhaaGreatXGrc
import Derived.Test.YtpedagpcblnnhaaGreatYAll
import Derived.Test.YtpedagpcblnnhaaGreatP04g
import Derived.Test.YtpedagpcblnnhaaGreatP09a
import Derived.Test.YtpedagpcblnnhaaGreatP09s
import Derived.Test.YtpedagpcblnnhaaGreatP10a
import Derived.Test.YtpedagpcblnnhaaGreatP10s
import Derived.Test.YtpedagpcblnnhaaGreatPGA
import Derived.Test.YtpedagpcblnnhaaGreatPGE
import Derived.Deep.RegionHeld3
import Derived.Laws.EntriesVeiled
import Derived.WalkSpells
namespace Go.Proofs.YtpedagpcblnnhaaGreat.X
open Go.RowKit Go.Proofs.YtpedagpcblnnhaaGreatW.PrintWords Go.Proofs.YtpedagpcblnnhaaGreatW.PrintLast Go.Proofs.YtpedagpcblnnhaaGreatW.PrintMore
attribute [local go_sem] max2_int min2_int max_two min_two
set_option linter.unusedVariables false
set_option linter.unusedSimpArgs false
open Go.Proofs.YtpedagpcblnnhaaGreatY
set_option maxRecDepth 100000
theorem make512r (W : World) : (Instr.makeSlice 43 (.int .i64 512) (.int .i64 512)).run Tryz.prog W = .ok (.slice (some ⟨W.heap.size, 0, none⟩) 512 512) (W.alloc (.cells (nums .u8 z512).toArray 5)) := by
  obtain ⟨i0, hi, hz0, hz1, hz2⟩ := info_parts info5
  have := run_make (P := Tryz.prog) W 43 5 i0 (.int .u8 0) Tryz.underlying43 hi hz0 .i64 .i64 512 512 (by decide) (by decide) (by rw [hz2]; decide) (by decide)
  rw [this, hz1]
  show Result.ok _ (W.alloc (.cells (madeCells #[Value.int .u8 0] 512) _)) = _
  rw [made_nums]
  rfl
theorem z512_byr : ∀ y ∈ z512, 0 ≤ y ∧ y ≤ 255 := fun y hy => by
  have := List.eq_of_mem_replicate hy
  subst this
  exact ⟨by decide, by decide⟩
theorem rowsN {W : World} {g : Nat} {A : Option Addr} {x : List Int} (n : Nat) (hn : n ≤ 10) (h : W.heap[g]? = some (.cells (List.replicate n (.slice A 512 512)).toArray 43 (0, 0))) (hx : x.length = 512) (hC : Kd.C (Kd.int .u8) W A x.length x) : Kd.C (Kd.slice 5 (Kd.int .u8)) W (some ⟨g, 0, none⟩) n (List.replicate n x) := by
  refine ⟨by simp, by omega, fun _ => ⟨_, rfl, fun j p hp => ?_⟩⟩
  rw [List.getElem?_replicate] at hp
  split at hp
  · rename_i hj
    obtain rfl := Option.some.inj hp
    refine ⟨[.slice A 512 512], rfl, ⟨A, 512, by rw [hx], by rw [hx]; exact Nat.le_refl _, hC⟩, fun i u hu => ?_⟩
    cases i with
    | zero =>
      obtain rfl : Value.slice A 512 512 = u := by simpa using hu
      rw [add_plain, blk_cell h]
      show (List.replicate n (Value.slice A 512 512)).toArray[j * 1 + 0]? = _
      rw [Nat.mul_one, Nat.add_zero]
      simp [hj]
    | succ i => simp at hu
  · cases hp
theorem run_z2 : runR (zst 0) [z512, z512] = (zst 5, [], 2, 0) := by
  unfold runR
  simp only [runP, step_z0, step_z4]
  rfl
theorem run_z1 : runR (zst 0) [z512] = (zst 4, [], 1, 0) := by
  unfold runR
  simp only [runP, step_z0]
  rfl
theorem read_z2 : readR [z512, z512] = ([], 0) := by
  unfold readR
  rw [show runR st0 [z512, z512] = (zst 5, [], 2, 0) from run_z2, if_neg (fun h => h rfl), if_neg (fun h => h rfl)]
  rfl
theorem read_z1 : readR [z512] = ([], 7) := by
  unfold readR
  rw [show runR st0 [z512] = (zst 4, [], 1, 0) from run_z1, if_neg (fun h => h rfl), if_pos (show (zst 4).f0 ≠ 5 by decide)]
theorem part_z1 : partR [z512] = ([], 0) := by
  unfold partR
  rw [show runR st0 [z512] = (zst 4, [], 1, 0) from run_z1]
  rfl
def evs3 : List Evt := [⟨0, nd00, ⟨#[]⟩⟩, ⟨1, nd00, ⟨#[97]⟩⟩, evOver]
theorem gath3 : gatherF evs3 = ([addD nd00 ⟨#[97]⟩], true) := rfl
theorem evs3_at {W : World} {g : Nat} (h : W.heap[g]? = some (.cells #[.int .i64 0, .string ⟨#[]⟩, .string ⟨#[]⟩, .int .u8 0, .int .i64 0, .int .i64 0, .int .i64 0, .int .i64 0, .string ⟨#[]⟩, .string ⟨#[]⟩, .int .i64 1, .string ⟨#[]⟩, .string ⟨#[]⟩, .int .u8 0, .int .i64 0, .int .i64 0, .int .i64 0, .int .i64 0, .string ⟨#[]⟩, .string ⟨#[97]⟩, .int .i64 2, .string ⟨#[]⟩, .string ⟨#[]⟩, .int .u8 0, .int .i64 0, .int .i64 0, .int .i64 0, .int .i64 0, .string ⟨#[]⟩, .string ⟨#[]⟩] 45 (0, 0))) : Kd.C k45 W (some ⟨g, 0, none⟩) 3 evs3 := by
  refine ⟨rfl, by simp, fun _ => ⟨_, rfl, fun j p hp => ?_⟩⟩
  match j, hp with
  | 0, hp =>
    obtain rfl := Option.some.inj hp
    refine ⟨[.int .i64 0, .string ⟨#[]⟩, .string ⟨#[]⟩, .int .u8 0, .int .i64 0, .int .i64 0, .int .i64 0, .int .i64 0, .string ⟨#[]⟩, .string ⟨#[]⟩], rfl, Kd.K_of_M (base := 0) (ok := fun _ => True) k45 (k45_mkM _ 0 (fun _ => True) ⟨0, nd00, ⟨#[]⟩⟩), fun i u hu => ?_⟩
    rw [add_plain, blk_cell h]
    match i, hu with
    | 0, hu => exact hu
    | 1, hu => exact hu
    | 2, hu => exact hu
    | 3, hu => exact hu
    | 4, hu => exact hu
    | 5, hu => exact hu
    | 6, hu => exact hu
    | 7, hu => exact hu
    | 8, hu => exact hu
    | 9, hu => exact hu
    | i + 10, hu => simp at hu
  | 1, hp =>
    obtain rfl := Option.some.inj hp
    refine ⟨[.int .i64 1, .string ⟨#[]⟩, .string ⟨#[]⟩, .int .u8 0, .int .i64 0, .int .i64 0, .int .i64 0, .int .i64 0, .string ⟨#[]⟩, .string ⟨#[97]⟩], rfl, Kd.K_of_M (base := 0) (ok := fun _ => True) k45 (k45_mkM _ 0 (fun _ => True) ⟨1, nd00, ⟨#[97]⟩⟩), fun i u hu => ?_⟩
    rw [add_plain, blk_cell h]
    match i, hu with
    | 0, hu => exact hu
    | 1, hu => exact hu
    | 2, hu => exact hu
    | 3, hu => exact hu
    | 4, hu => exact hu
    | 5, hu => exact hu
    | 6, hu => exact hu
    | 7, hu => exact hu
    | 8, hu => exact hu
    | 9, hu => exact hu
    | i + 10, hu => simp at hu
  | 2, hp =>
    obtain rfl := Option.some.inj hp
    refine ⟨[.int .i64 2, .string ⟨#[]⟩, .string ⟨#[]⟩, .int .u8 0, .int .i64 0, .int .i64 0, .int .i64 0, .int .i64 0, .string ⟨#[]⟩, .string ⟨#[]⟩], rfl, Kd.K_of_M (base := 0) (ok := fun _ => True) k45 (k45_mkM _ 0 (fun _ => True) evOver), fun i u hu => ?_⟩
    rw [add_plain, blk_cell h]
    match i, hu with
    | 0, hu => exact hu
    | 1, hu => exact hu
    | 2, hu => exact hu
    | 3, hu => exact hu
    | 4, hu => exact hu
    | 5, hu => exact hu
    | 6, hu => exact hu
    | 7, hu => exact hu
    | 8, hu => exact hu
    | 9, hu => exact hu
    | i + 10, hu => simp at hu
  | j + 3, hp => simp [evs3] at hp
theorem a_size : (addD nd00 ⟨#[97]⟩).f7 = ⟨#[97]⟩ := empty_add _
theorem rd2_at (x : List Int) (hx : x = z512) (gz : Nat) (W : World) (hC : Kd.C (Kd.int .u8) W (some ⟨gz, 0, none⟩) 512 x) : Calls Tryz.prog 13 #[.slice (some ⟨W.heap.size, 0, none⟩) 2 2] (W.alloc (.cells #[.slice (some ⟨gz, 0, none⟩) 512 512, .slice (some ⟨gz, 0, none⟩) 512 512] 43)) fun e w' => ∃ A c, e = .returned (.tuple #[.slice A 0 c, .int .i64 0]) ∧ Aside0 (c = c) ∧ Below (W.alloc (.cells #[.slice (some ⟨gz, 0, none⟩) 512 512, .slice (some ⟨gz, 0, none⟩) 512 512] 43)).heap.size (W.alloc (.cells #[.slice (some ⟨gz, 0, none⟩) 512 512, .slice (some ⟨gz, 0, none⟩) 512 512] 43)) w' := by
  have hl : x.length = 512 := by rw [hx]; exact z512_len
  have hb : ∀ q ∈ List.replicate 2 x, ∀ y ∈ q, 0 ≤ y ∧ y ≤ 255 := fun q hq y hy => by
    rw [List.eq_of_mem_replicate hq, hx] at hy
    exact z512_byr y hy
  have hR := rowsN 2 (by decide) (heap_alloc_new W (.cells #[.slice (some ⟨gz, 0, none⟩) 512 512, .slice (some ⟨gz, 0, none⟩) 512 512] 43)) hl (by rw [hl]; exact Kd.C_alloc hC _)
  have h_ := read_Read.at_ (some ⟨W.heap.size, 0, none⟩) 2 (List.replicate 2 x) (by simp) (W.alloc (.cells #[.slice (some ⟨gz, 0, none⟩) 512 512, .slice (some ⟨gz, 0, none⟩) 512 512] 43)) (by simpa using hR) (by simp) hb
  rw [show List.replicate 2 x = [z512, z512] by rw [hx]; rfl, read_z2] at h_
  exact h_.mono fun e w' ⟨A, c, he, _, hb⟩ => ⟨A, c, he, ⟨rfl⟩, hb⟩
theorem rd1_at (x : List Int) (hx : x = z512) (gz : Nat) (W : World) (hC : Kd.C (Kd.int .u8) W (some ⟨gz, 0, none⟩) 512 x) : Calls Tryz.prog 13 #[.slice (some ⟨W.heap.size, 0, none⟩) 1 1] (W.alloc (.cells #[.slice (some ⟨gz, 0, none⟩) 512 512] 43)) fun e w' => ∃ A c, e = .returned (.tuple #[.slice A 0 c, .int .i64 7]) ∧ Aside0 (c = c) ∧ Below (W.alloc (.cells #[.slice (some ⟨gz, 0, none⟩) 512 512] 43)).heap.size (W.alloc (.cells #[.slice (some ⟨gz, 0, none⟩) 512 512] 43)) w' := by
  have hl : x.length = 512 := by rw [hx]; exact z512_len
  have hb : ∀ q ∈ List.replicate 1 x, ∀ y ∈ q, 0 ≤ y ∧ y ≤ 255 := fun q hq y hy => by
    rw [List.eq_of_mem_replicate hq, hx] at hy
    exact z512_byr y hy
  have hR := rowsN 1 (by decide) (heap_alloc_new W (.cells #[.slice (some ⟨gz, 0, none⟩) 512 512] 43)) hl (by rw [hl]; exact Kd.C_alloc hC _)
  have h_ := read_Read.at_ (some ⟨W.heap.size, 0, none⟩) 1 (List.replicate 1 x) (by simp) (W.alloc (.cells #[.slice (some ⟨gz, 0, none⟩) 512 512] 43)) (by simpa using hR) (by simp) hb
  rw [show List.replicate 1 x = [z512] by rw [hx]; rfl, read_z1] at h_
  exact h_.mono fun e w' ⟨A, c, he, _, hb⟩ => ⟨A, c, he, ⟨rfl⟩, hb⟩
theorem pt1_at (x : List Int) (hx : x = z512) (gz : Nat) (W : World) (hC : Kd.C (Kd.int .u8) W (some ⟨gz, 0, none⟩) 512 x) : Calls Tryz.prog 11 #[.slice (some ⟨W.heap.size, 0, none⟩) 1 1] (W.alloc (.cells #[.slice (some ⟨gz, 0, none⟩) 512 512] 43)) fun e w' => ∃ A c, e = .returned (.tuple #[.slice A 0 c, .int .i64 0]) ∧ Aside0 (c = c) ∧ Below (W.alloc (.cells #[.slice (some ⟨gz, 0, none⟩) 512 512] 43)).heap.size (W.alloc (.cells #[.slice (some ⟨gz, 0, none⟩) 512 512] 43)) w' := by
  have hl : x.length = 512 := by rw [hx]; exact z512_len
  have hb : ∀ q ∈ List.replicate 1 x, ∀ y ∈ q, 0 ≤ y ∧ y ≤ 255 := fun q hq y hy => by
    rw [List.eq_of_mem_replicate hq, hx] at hy
    exact z512_byr y hy
  have hR := rowsN 1 (by decide) (heap_alloc_new W (.cells #[.slice (some ⟨gz, 0, none⟩) 512 512] 43)) hl (by rw [hl]; exact Kd.C_alloc hC _)
  have h_ := read_Part.at_ (some ⟨W.heap.size, 0, none⟩) 1 (List.replicate 1 x) (by simp) (W.alloc (.cells #[.slice (some ⟨gz, 0, none⟩) 512 512] 43)) (by simpa using hR) (by simp) hb
  rw [show List.replicate 1 x = [z512] by rw [hx]; rfl, part_z1] at h_
  exact h_.mono fun e w' ⟨A, c, he, _, hb⟩ => ⟨A, c, he, ⟨rfl⟩, hb⟩
theorem us3_at (x : List Int) (hx : x = z512) (gz : Nat) (W : World) (hC : Kd.C (Kd.int .u8) W (some ⟨gz, 0, none⟩) 512 x) : Calls Tryz.prog 16 #[.slice (some ⟨W.heap.size, 0, none⟩) 3 3] (W.alloc (.cells #[.slice (some ⟨gz, 0, none⟩) 512 512, .slice (some ⟨gz, 0, none⟩) 512 512, .slice (some ⟨gz, 0, none⟩) 512 512] 43)) fun e w' => e = .returned (.int .i64 2) ∧ Below (W.alloc (.cells #[.slice (some ⟨gz, 0, none⟩) 512 512, .slice (some ⟨gz, 0, none⟩) 512 512, .slice (some ⟨gz, 0, none⟩) 512 512] 43)).heap.size (W.alloc (.cells #[.slice (some ⟨gz, 0, none⟩) 512 512, .slice (some ⟨gz, 0, none⟩) 512 512, .slice (some ⟨gz, 0, none⟩) 512 512] 43)) w' := by
  have hl : x.length = 512 := by rw [hx]; exact z512_len
  have hb : ∀ q ∈ List.replicate 3 x, ∀ y ∈ q, 0 ≤ y ∧ y ≤ 255 := fun q hq y hy => by
    rw [List.eq_of_mem_replicate hq, hx] at hy
    exact z512_byr y hy
  have hR := rowsN 3 (by decide) (heap_alloc_new W (.cells #[.slice (some ⟨gz, 0, none⟩) 512 512, .slice (some ⟨gz, 0, none⟩) 512 512, .slice (some ⟨gz, 0, none⟩) 512 512] 43)) hl (by rw [hl]; exact Kd.C_alloc hC _)
  have h_ := read_Used.at_ (some ⟨W.heap.size, 0, none⟩) 3 (List.replicate 3 x) (by simp) (W.alloc (.cells #[.slice (some ⟨gz, 0, none⟩) 512 512, .slice (some ⟨gz, 0, none⟩) 512 512, .slice (some ⟨gz, 0, none⟩) 512 512] 43)) (by simpa using hR) (by simp) hb
  rw [show List.replicate 3 x = [z512, z512, z512] by rw [hx]; rfl, show runR st0 [z512, z512, z512] = (zst 5, [], 2, 0) from run_z] at h_
  exact h_
theorem ga_at (W : World) : Calls Tryz.prog 9 #[.slice (some ⟨W.heap.size, 0, none⟩) 3 3] (W.alloc (.cells #[.int .i64 0, .string ⟨#[]⟩, .string ⟨#[]⟩, .int .u8 0, .int .i64 0, .int .i64 0, .int .i64 0, .int .i64 0, .string ⟨#[]⟩, .string ⟨#[]⟩, .int .i64 1, .string ⟨#[]⟩, .string ⟨#[]⟩, .int .u8 0, .int .i64 0, .int .i64 0, .int .i64 0, .int .i64 0, .string ⟨#[]⟩, .string ⟨#[97]⟩, .int .i64 2, .string ⟨#[]⟩, .string ⟨#[]⟩, .int .u8 0, .int .i64 0, .int .i64 0, .int .i64 0, .int .i64 0, .string ⟨#[]⟩, .string ⟨#[]⟩] 45)) fun e w' => ∃ g : Nat, e = .returned (.tuple #[.slice (some ⟨g, 0, none⟩) 1 1, .bool true]) ∧ Aside0 (Kd.C kNd w' (some ⟨g, 0, none⟩) 1 [addD nd00 ⟨#[97]⟩]) ∧ Below (W.alloc (.cells #[.int .i64 0, .string ⟨#[]⟩, .string ⟨#[]⟩, .int .u8 0, .int .i64 0, .int .i64 0, .int .i64 0, .int .i64 0, .string ⟨#[]⟩, .string ⟨#[]⟩, .int .i64 1, .string ⟨#[]⟩, .string ⟨#[]⟩, .int .u8 0, .int .i64 0, .int .i64 0, .int .i64 0, .int .i64 0, .string ⟨#[]⟩, .string ⟨#[97]⟩, .int .i64 2, .string ⟨#[]⟩, .string ⟨#[]⟩, .int .u8 0, .int .i64 0, .int .i64 0, .int .i64 0, .int .i64 0, .string ⟨#[]⟩, .string ⟨#[]⟩] 45)).heap.size (W.alloc (.cells #[.int .i64 0, .string ⟨#[]⟩, .string ⟨#[]⟩, .int .u8 0, .int .i64 0, .int .i64 0, .int .i64 0, .int .i64 0, .string ⟨#[]⟩, .string ⟨#[]⟩, .int .i64 1, .string ⟨#[]⟩, .string ⟨#[]⟩, .int .u8 0, .int .i64 0, .int .i64 0, .int .i64 0, .int .i64 0, .string ⟨#[]⟩, .string ⟨#[97]⟩, .int .i64 2, .string ⟨#[]⟩, .string ⟨#[]⟩, .int .u8 0, .int .i64 0, .int .i64 0, .int .i64 0, .int .i64 0, .string ⟨#[]⟩, .string ⟨#[]⟩] 45)) w' := by
  have h_ := read_Gather.at_ (some ⟨W.heap.size, 0, none⟩) 3 evs3 (by decide) (fun v hv => by
    simp only [evs3, List.mem_cons, List.not_mem_nil, or_false] at hv
    rcases hv with rfl | rfl | rfl <;> exact ⟨by decide, by decide⟩) (W.alloc (.cells #[.int .i64 0, .string ⟨#[]⟩, .string ⟨#[]⟩, .int .u8 0, .int .i64 0, .int .i64 0, .int .i64 0, .int .i64 0, .string ⟨#[]⟩, .string ⟨#[]⟩, .int .i64 1, .string ⟨#[]⟩, .string ⟨#[]⟩, .int .u8 0, .int .i64 0, .int .i64 0, .int .i64 0, .int .i64 0, .string ⟨#[]⟩, .string ⟨#[97]⟩, .int .i64 2, .string ⟨#[]⟩, .string ⟨#[]⟩, .int .u8 0, .int .i64 0, .int .i64 0, .int .i64 0, .int .i64 0, .string ⟨#[]⟩, .string ⟨#[]⟩] 45)) (evs3_at (heap_alloc_new W (.cells #[.int .i64 0, .string ⟨#[]⟩, .string ⟨#[]⟩, .int .u8 0, .int .i64 0, .int .i64 0, .int .i64 0, .int .i64 0, .string ⟨#[]⟩, .string ⟨#[]⟩, .int .i64 1, .string ⟨#[]⟩, .string ⟨#[]⟩, .int .u8 0, .int .i64 0, .int .i64 0, .int .i64 0, .int .i64 0, .string ⟨#[]⟩, .string ⟨#[97]⟩, .int .i64 2, .string ⟨#[]⟩, .string ⟨#[]⟩, .int .u8 0, .int .i64 0, .int .i64 0, .int .i64 0, .int .i64 0, .string ⟨#[]⟩, .string ⟨#[]⟩] 45))) (by decide)
  rw [gath3] at h_
  exact h_.mono fun e w' ⟨g, he, hR, hb⟩ => ⟨g, he, ⟨(Kd.R_reads' hR.out).2.2⟩, hb⟩
set_option maxHeartbeats 3200000 in
theorem awake10.at_ (w : World) : Calls Tryz.prog 6 #[] w fun e w' => e = .returned (.bool true) ∧ Below w.heap.size w w' := by
  have hmk := make512r
  have HB1 := Aside0.mk (below_alloc (Below.refl w.heap.size w) (.cells (nums .u8 z512).toArray 5))
  have hC1 := C_block (x := z512) (heap_alloc_new w (.cells (nums .u8 z512).toArray 5)) (by rw [z512_len]; decide)
  rw [z512_len] at hC1
  generalize hz : nums .u8 z512 = Z at *
  clear hz
  obtain ⟨x, hx⟩ : ∃ x, x = z512 := ⟨_, rfl⟩
  rw [← hx] at hC1
  have HC1 := Aside0.mk hC1
  clear hC1
  go_enter Tryz.func6, Tryz.ntmps6
  go_upto_region 2 with (fail)
  obtain ⟨W1, hW1⟩ : ∃ W', w.alloc (.cells Z.toArray 5) = W' := ⟨_, rfl⟩
  rw [hW1] at HB1 HC1 ⊢
  clear hW1 hmk
  obtain ⟨gz, hgz⟩ : ∃ k, w.heap.size = k := ⟨_, rfl⟩
  rw [hgz] at HC1 ⊢
  have HGZ := Aside0.mk hgz
  clear hgz
  have hrd2 := fun W hC => rd2_at x hx gz W hC
  have hrd1 := fun W hC => rd1_at x hx gz W hC
  have hpt1 := fun W hC => pt1_at x hx gz W hC
  have hus3 := fun W hC => us3_at x hx gz W hC
  have hga := ga_at
  clear hx
  go_upto_region 3 with (go_at_call 13; refine (hrd2 _ HC1.out).mono ?_; rintro e_ w2 ⟨A2, c2, rfl, -, hb_⟩; have HB2 := Aside0.mk (below_step (below_alloc HB1.out (.cells #[.slice (some ⟨gz, 0, none⟩) 512 512, .slice (some ⟨gz, 0, none⟩) 512 512] 43)) hb_); have HC2 := Aside0.mk (Kd.C_below (Kd.C_alloc HC1.out (.cells #[.slice (some ⟨gz, 0, none⟩) 512 512, .slice (some ⟨gz, 0, none⟩) 512 512] 43)) hb_); clear hb_)
  go_upto_region 4 with (go_at_call 13; refine (hrd1 _ HC2.out).mono ?_; rintro e_ w3 ⟨A3, c3, rfl, -, hb_⟩; have HB3 := Aside0.mk (below_step (below_alloc HB2.out (.cells #[.slice (some ⟨gz, 0, none⟩) 512 512] 43)) hb_); have HC3 := Aside0.mk (Kd.C_below (Kd.C_alloc HC2.out (.cells #[.slice (some ⟨gz, 0, none⟩) 512 512] 43)) hb_); clear hb_)
  go_upto_region 5 with (go_at_call 9; refine (hga _).mono ?_; rintro e_ w4 ⟨g4, rfl, hG, hb_⟩; have HB4 := Aside0.mk (below_step (below_alloc HB3.out (.cells #[.int .i64 0, .string ⟨#[]⟩, .string ⟨#[]⟩, .int .u8 0, .int .i64 0, .int .i64 0, .int .i64 0, .int .i64 0, .string ⟨#[]⟩, .string ⟨#[]⟩, .int .i64 1, .string ⟨#[]⟩, .string ⟨#[]⟩, .int .u8 0, .int .i64 0, .int .i64 0, .int .i64 0, .int .i64 0, .string ⟨#[]⟩, .string ⟨#[97]⟩, .int .i64 2, .string ⟨#[]⟩, .string ⟨#[]⟩, .int .u8 0, .int .i64 0, .int .i64 0, .int .i64 0, .int .i64 0, .string ⟨#[]⟩, .string ⟨#[]⟩] 45)) hb_); have HC4 := Aside0.mk (Kd.C_below (Kd.C_alloc HC3.out (.cells #[.int .i64 0, .string ⟨#[]⟩, .string ⟨#[]⟩, .int .u8 0, .int .i64 0, .int .i64 0, .int .i64 0, .int .i64 0, .string ⟨#[]⟩, .string ⟨#[]⟩, .int .i64 1, .string ⟨#[]⟩, .string ⟨#[]⟩, .int .u8 0, .int .i64 0, .int .i64 0, .int .i64 0, .int .i64 0, .string ⟨#[]⟩, .string ⟨#[97]⟩, .int .i64 2, .string ⟨#[]⟩, .string ⟨#[]⟩, .int .u8 0, .int .i64 0, .int .i64 0, .int .i64 0, .int .i64 0, .string ⟨#[]⟩, .string ⟨#[]⟩] 45)) hb_); have HG4 := hG; clear hb_ hG)
  go_upto_region 6 with (go_at_call 11; refine (hpt1 _ HC4.out).mono ?_; rintro e_ w5 ⟨A5, c5, rfl, -, hb_⟩; have HB5 := Aside0.mk (below_step (below_alloc HB4.out (.cells #[.slice (some ⟨gz, 0, none⟩) 512 512] 43)) hb_); have HC5 := Aside0.mk (Kd.C_below (Kd.C_alloc HC4.out (.cells #[.slice (some ⟨gz, 0, none⟩) 512 512] 43)) hb_); have HG5 := Aside0.mk (Kd.C_below (Kd.C_alloc HG4.out (.cells #[.slice (some ⟨gz, 0, none⟩) 512 512] 43)) hb_); clear hb_)
  obtain ⟨ad, ea, _, _, _, _, _, _, _, e7⟩ := nd_cells HG5.out (i := 0) (by decide) _ rfl
  obtain rfl := Option.some.inj ea
  rw [a_size] at e7
  have e7 : w5.cell? ⟨g4, 7, none⟩ = some (.string ⟨#[97]⟩) := e7
  go_wp2_with (go_at_call 16; refine (hus3 _ HC5.out).mono ?_; rintro e_ w6 ⟨rfl, hb_⟩; have HB6 := Aside0.mk (below_step (below_alloc HB5.out (.cells #[.slice (some ⟨gz, 0, none⟩) 512 512, .slice (some ⟨gz, 0, none⟩) 512 512, .slice (some ⟨gz, 0, none⟩) 512 512] 43)) hb_); clear hb_)
  go_ret
  exact ⟨rfl, HB6.out⟩
end Go.Proofs.YtpedagpcblnnhaaGreat.X
