import Derived.Test.YtddjnicmpgbcgaaXK
import Derived.Test.YtddjnicmpgbcgaaYConv
import Derived.BigQuiet
import Derived.Deep.QuietTactic
import Derived.Deep.RegionHeld3
import Derived.Laws.EntriesVeiled
import Derived.RegionTactic
import Derived.WalkSpells
namespace Go.Proofs.Ytddjnicmpgbcgaa.X
open Go.RowKit Go.Proofs.YtddjnicmpgbcgaaW.PrintWords Go.Proofs.YtddjnicmpgbcgaaW.PrintLast Go.Proofs.YtddjnicmpgbcgaaW.PrintMore
attribute [local go_sem] max2_int min2_int max_two min_two max_three min_three max_four min_four
set_option linter.unusedVariables false
set_option linter.unusedSimpArgs false


open Go.Proofs.YtddjnicmpgbcgaaY
/-- A place, a width, and where a text, or a number, stands. -/
abbrev Spot := Int × Int × Addr
def spotV (x : Spot) : List Value := [.int .i64 x.1, .int .i64 x.2.1, .pointer (some x.2.2)]
theorem info93 : (Try.prog.info? 93).map (fun i => (i.zero, i.size, i.bytes)) = some (some (.agg #[.int .i64 0, .int .i64 0, .pointer none]), 3, 24) := by kernel_rfl
theorem info99 : (Try.prog.info? 99).map (fun i => (i.zero, i.size, i.bytes)) = some (some (.agg #[.int .i64 0, .int .i64 0, .pointer none]), 3, 24) := by kernel_rfl
def kSpot : Kd Spot where
  sz := 3
  E := []
  K := fun _ x cs => cs = spotV x
  M := fun _ _ _ x cs => cs = spotV x
  K_len := fun h => by rw [h]; rfl
  K_one := fun h u hu => by
    rw [h] at hu
    simp only [spotV, List.mem_cons, List.not_mem_nil, or_false] at hu
    rcases hu with rfl | rfl | rfl <;> rfl
  K_below := fun _ h => h
  K_of_M := fun h => h
  M_mono := fun _ h => h
  M_bound := fun h => h
  M_move := fun _ h => h
  M_lower := fun _ h => h
def wordsL (b : Nat) (ty : Int) : List Spot := [(0, 100, ⟨b, 0, none⟩), (157, 100, ⟨b, 2, none⟩)] ++ if ty = 77 then [] else [(345, 155, ⟨b, 1, none⟩)]
def numbersL (b : Nat) (ty : Int) : List Spot := [(100, 8, ⟨b, 3, none⟩), (108, 8, ⟨b, 4, none⟩), (116, 8, ⟨b, 5, none⟩), (124, 12, ⟨b, 6, none⟩), (136, 12, ⟨b, 7, none⟩)] ++ if ty = 77 then [(369, 12, ⟨b, 9, none⟩), (483, 12, ⟨b, 10, none⟩)] else []
set_option maxHeartbeats 4000000 in
set_option maxRecDepth 100000 in
theorem head_words.at_ (b : Nat) (cs : Array Value) (ty : Int) (hty : cs[8]? = some (.int .u8 ty)) (W : World) (hb : W.heap[b]? = some (.cells cs 71 (0, 0))) :
    Calls Try.prog 86 #[.pointer (some ⟨b, 0, none⟩)] W fun e w' => ∃ v, e = .returned v ∧ Kd.R kSpot 93 w' W.heap.size (fun _ => True) v (wordsL b ty) ∧ Below W.heap.size W w' := by
  have hc8 := (blk_cell hb 8).trans hty
  have hlt := blk_lt hb
  obtain ⟨wl, hwl⟩ : ∃ wl, wordsL b ty = wl := ⟨_, rfl⟩
  rw [hwl]
  have HWL := Aside0.mk hwl
  clear hb hwl
  go_enter Try.func86, Try.ntmps86
  go_wp2_with (fail)
  go_region_held3 (fun w' => w'.cell? ⟨b, 8, none⟩ = some (.int .u8 ty)) (go_keep) (fail)
  have hlit : Kd.R kSpot 93 ((W.alloc (.cells #[.int .i64 0, .int .i64 100, .pointer (some ⟨b, 0, none⟩), .int .i64 157, .int .i64 100, .pointer (some ⟨b, 2, none⟩)] 93)).drew) W.heap.size (fun _ => True) (.slice (some ⟨W.heap.size, 0, none⟩) 2 2) [(0, 100, ⟨b, 0, none⟩), (157, 100, ⟨b, 2, none⟩)] := by
    have h2 := World.ownsRow_lit (base := W.heap.size) (e := 93) (size := 3) W #[.int .i64 0, .int .i64 100, .pointer (some ⟨b, 0, none⟩), .int .i64 157, .int .i64 100, .pointer (some ⟨b, 2, none⟩)] 2 (Nat.le_refl _) (by decide) rfl
    exact Kd.R_drew ⟨fun _ _ => trivial, _, h2, Reps.c3 rfl (Reps.c3 rfl (Reps.none _ _))⟩
  have hB1 := below_drew (below_alloc (Below.refl W.heap.size W) (.cells #[.int .i64 0, .int .i64 100, .pointer (some ⟨b, 0, none⟩), .int .i64 157, .int .i64 100, .pointer (some ⟨b, 2, none⟩)] 93))
  obtain ⟨W1, hW1⟩ : ∃ W1, (W.alloc (.cells #[.int .i64 0, .int .i64 100, .pointer (some ⟨b, 0, none⟩), .int .i64 157, .int .i64 100, .pointer (some ⟨b, 2, none⟩)] 93)).drew = W1 := ⟨_, rfl⟩
  rw [hW1] at hlit hB1 ⊢
  have hc1 : W1.cell? ⟨b, 8, none⟩ = some (.int .u8 ty) := (hB1.cell (p := ⟨b, 8, none⟩) hlt).trans hc8
  clear hW1 hc8
  have HO := Aside0.mk hlit
  have HB1 := Aside0.mk hB1
  clear hlit hB1
  by_cases h77 : ty = 77
  · subst h77
    go_wp2_with (fail)
    go_ret
    rw [← HWL.out]
    exact ⟨_, rfl, HO.out, HB1.out⟩
  · have hb1 : (ty == 77) = false := beq_eq_false_iff_ne.2 h77
    have hb2 : (ty != 77) = true := by rw [bne, hb1]; rfl
    have hL : wordsL b ty = [(0, 100, ⟨b, 0, none⟩), (157, 100, ⟨b, 2, none⟩)] ++ [(345, 155, ⟨b, 1, none⟩)] := by unfold wordsL; rw [if_neg h77]
    have HL := Aside0.mk hL
    clear hL h77
    go_wp2_with (at_builtin; refine Kd.R_append kSpot (w0 := W) (W := W1) W.heap.size rfl (.tmp 18) (.tmp 23) 88 93 (.agg #[.int .i64 0, .int .i64 0, .pointer none]) 24 rfl Try.underlying88 info93 rfl (by decide) (by decide) _ _ (345, 155, ⟨b, 1, none⟩) [.int .i64 345, .int .i64 155, .pointer (some ⟨b, 1, none⟩)] (fun _ => True) (fun _ => False) rfl rfl rfl (fun _ h => h.elim) (fun _ _ => trivial) HO.out HB1.out HB1.out.size (by simp) ?_; intro v1 w1 ho hb hg hat; clear hg hat)
    go_ret
    rw [← HWL.out, HL.out]
    exact ⟨_, rfl, ho, hb⟩

set_option maxHeartbeats 4000000 in
set_option maxRecDepth 100000 in
theorem head_numbers.at_ (b : Nat) (cs : Array Value) (ty : Int) (hty : cs[8]? = some (.int .u8 ty)) (W : World) (hb : W.heap[b]? = some (.cells cs 71 (0, 0))) :
    Calls Try.prog 88 #[.pointer (some ⟨b, 0, none⟩)] W fun e w' => ∃ v, e = .returned v ∧ Kd.R kSpot 99 w' W.heap.size (fun _ => True) v (numbersL b ty) ∧ Below W.heap.size W w' := by
  have hc8 := (blk_cell hb 8).trans hty
  have hlt := blk_lt hb
  obtain ⟨wl, hwl⟩ : ∃ wl, numbersL b ty = wl := ⟨_, rfl⟩
  rw [hwl]
  have HWL := Aside0.mk hwl
  clear hb hwl
  go_enter Try.func88, Try.ntmps88
  go_wp2_with (fail)
  go_region_held3 (fun w' => w'.cell? ⟨b, 8, none⟩ = some (.int .u8 ty)) (go_keep) (fail)
  obtain ⟨row, hrow⟩ : ∃ row : Array Value, #[.int .i64 100, .int .i64 8, .pointer (some ⟨b, 3, none⟩), .int .i64 108, .int .i64 8, .pointer (some ⟨b, 4, none⟩), .int .i64 116, .int .i64 8, .pointer (some ⟨b, 5, none⟩), .int .i64 124, .int .i64 12, .pointer (some ⟨b, 6, none⟩), .int .i64 136, .int .i64 12, .pointer (some ⟨b, 7, none⟩)] = row := ⟨_, rfl⟩
  have hlit : Kd.R kSpot 99 ((W.alloc (.cells row 99)).drew) W.heap.size (fun _ => True) (.slice (some ⟨W.heap.size, 0, none⟩) 5 5) [(100, 8, ⟨b, 3, none⟩), (108, 8, ⟨b, 4, none⟩), (116, 8, ⟨b, 5, none⟩), (124, 12, ⟨b, 6, none⟩), (136, 12, ⟨b, 7, none⟩)] := by
    subst hrow
    have h2 := World.ownsRow_lit (base := W.heap.size) (e := 99) (size := 3) W #[.int .i64 100, .int .i64 8, .pointer (some ⟨b, 3, none⟩), .int .i64 108, .int .i64 8, .pointer (some ⟨b, 4, none⟩), .int .i64 116, .int .i64 8, .pointer (some ⟨b, 5, none⟩), .int .i64 124, .int .i64 12, .pointer (some ⟨b, 6, none⟩), .int .i64 136, .int .i64 12, .pointer (some ⟨b, 7, none⟩)] 5 (Nat.le_refl _) (by decide) rfl
    exact Kd.R_drew ⟨fun _ _ => trivial, _, h2, Reps.c3 rfl (Reps.c3 rfl (Reps.c3 rfl (Reps.c3 rfl (Reps.c3 rfl (Reps.none _ _)))))⟩
  have hB1 := below_drew (below_alloc (Below.refl W.heap.size W) (.cells row 99))
  rw [hrow]
  obtain ⟨W1, hW1⟩ : ∃ W1, (W.alloc (.cells row 99)).drew = W1 := ⟨_, rfl⟩
  rw [hW1] at hlit hB1 ⊢
  have hc1 : W1.cell? ⟨b, 8, none⟩ = some (.int .u8 ty) := (hB1.cell (p := ⟨b, 8, none⟩) hlt).trans hc8
  have HC8 := Aside0.mk hc8
  clear hW1 hc8 hrow
  have HO := Aside0.mk hlit
  have HB1 := Aside0.mk hB1
  clear hlit hB1
  by_cases h77 : ty = 77
  · subst h77
    have hl2 : Kd.C kSpot (W1.alloc (.cells #[.int .i64 369, .int .i64 12, .pointer (some ⟨b, 9, none⟩), .int .i64 483, .int .i64 12, .pointer (some ⟨b, 10, none⟩)] 99)) (some ⟨W1.heap.size, 0, none⟩) 2 [(369, 12, ⟨b, 9, none⟩), (483, 12, ⟨b, 10, none⟩)] := by
      have h2 := World.ownsRow_lit (base := W1.heap.size) (e := 99) (size := 3) W1 #[.int .i64 369, .int .i64 12, .pointer (some ⟨b, 9, none⟩), .int .i64 483, .int .i64 12, .pointer (some ⟨b, 10, none⟩)] 2 (Nat.le_refl _) (by decide) rfl
      have h3 : Kd.R kSpot 99 (W1.alloc (.cells #[.int .i64 369, .int .i64 12, .pointer (some ⟨b, 9, none⟩), .int .i64 483, .int .i64 12, .pointer (some ⟨b, 10, none⟩)] 99)) W1.heap.size (fun _ => True) (.slice (some ⟨W1.heap.size, 0, none⟩) 2 2) [(369, 12, ⟨b, 9, none⟩), (483, 12, ⟨b, 10, none⟩)] := ⟨fun _ _ => trivial, _, h2, Reps.c3 rfl (Reps.c3 rfl (Reps.none _ _))⟩
      exact (Kd.R_reads' h3).2.2
    have HL2 := Aside0.mk hl2
    clear hl2
    go_wp2_with (fail)
    go_region_held3 (fun w' => w'.cell? ⟨b, 8, none⟩ = some (.int .u8 77)) (first | go_keep | exact (hb.cell (p := ⟨b, 8, none⟩) hlt).trans HC8.out) ((refine Kd.R_append_rows_step kSpot (w0 := W) W.heap.size (by rfl) (.tmp 30) (.tmp 39) 95 99 (.agg #[.int .i64 0, .int .i64 0, .pointer none]) 24 (by rfl) Try.underlying95 info99 rfl (by decide) (by decide) _ _ [(369, 12, ⟨b, 9, none⟩), (483, 12, ⟨b, 10, none⟩)] (some ⟨W1.heap.size, 0, none⟩) 2 2 (fun _ => True) (fun _ => False) (by rfl) (by rfl) (by (with_reducible repeat (first | apply Kd.R_alloc | apply Kd.R_drewN | apply Kd.R_drew)); exact HO.out) (Kd.C_below HL2.out (by repeat (first | exact Below.refl _ _ | apply below_drew | apply pw_below_drewN))) (fun _ _ h => h) (fun _ h => h.elim) (fun _ _ => trivial) (by repeat (first | (with_reducible first | exact HB1.out | apply below_alloc | apply pw_below_drewN | apply below_drew))) (by have := HB1.out.size; simp; omega) (by simp) ?_; intro v1 w1 ho hb hg hat; clear hg hat))
    go_wp2_with (fail)
    go_ret
    rw [← HWL.out]
    exact ⟨_, rfl, ho, hb⟩
  · have hb1 : (ty == 77) = false := beq_eq_false_iff_ne.2 h77
    have hb2 : (ty != 77) = true := by rw [bne, hb1]; rfl
    have hL : numbersL b ty = [(100, 8, ⟨b, 3, none⟩), (108, 8, ⟨b, 4, none⟩), (116, 8, ⟨b, 5, none⟩), (124, 12, ⟨b, 6, none⟩), (136, 12, ⟨b, 7, none⟩)] := by unfold numbersL; rw [if_neg h77, List.append_nil]
    have HL := Aside0.mk hL
    clear hL h77
    go_wp2_with (fail)
    go_ret
    rw [← HWL.out, HL.out]
    exact ⟨_, rfl, HO.out, HB1.out⟩

end Go.Proofs.Ytddjnicmpgbcgaa.X
