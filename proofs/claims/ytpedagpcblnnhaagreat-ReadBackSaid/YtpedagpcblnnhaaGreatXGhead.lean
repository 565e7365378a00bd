import Derived.Test.YtpedagpcblnnhaaGreatXK
import Derived.Test.YtpedagpcblnnhaaGreatXGnum
import Derived.Test.YtpedagpcblnnhaaGreatXGbytealg
import Derived.Test.YtpedagpcblnnhaaGreatYAll
import Derived.BigQuiet
import Derived.Deep.QuietTactic
import Derived.Deep.RegionHeld3
import Derived.Laws.EntriesVeiled
import Derived.Lib.SlBytesConst
import Derived.RegionTactic
import Derived.WalkSpells
namespace Go.Proofs.YtpedagpcblnnhaaGreat.X
open Go.RowKit Go.Proofs.YtpedagpcblnnhaaGreatW.PrintWords Go.Proofs.YtpedagpcblnnhaaGreatW.PrintLast Go.Proofs.YtpedagpcblnnhaaGreatW.PrintMore
attribute [local go_sem] max2_int min2_int max_two min_two
set_option linter.unusedVariables false
set_option linter.unusedSimpArgs false
section
open Go.Proofs.YtpedagpcblnnhaaGreatY
abbrev Spot := Int × Int × Addr
def spotV (x : Spot) : List Value := [.int .i64 x.1, .int .i64 x.2.1, .pointer (some x.2.2)]
theorem info114 : (Tryz.prog.info? 114).map (fun i => (i.zero, i.size, i.bytes)) = some (some (.agg #[.int .i64 0, .int .i64 0, .pointer none]), 3, 24) := by kernel_rfl
theorem info120 : (Tryz.prog.info? 120).map (fun i => (i.zero, i.size, i.bytes)) = some (some (.agg #[.int .i64 0, .int .i64 0, .pointer none]), 3, 24) := by kernel_rfl
def kSpot : Kd Spot where
  sz := 3
  E := []
  K := fun _ x cs => cs = spotV x
  M := fun _ _ _ x cs => cs = spotV x
  K_len := fun h => by rw [h]; rfl
  K_one := fun h u hu => by
    rw [h] at hu
    simp only [spotV, List.mem_cons, List.not_mem_nil, or_false] at hu
    rcases hu with rfl | rfl | rfl <;> rfl
  K_below := fun _ h => h
  K_of_M := fun h => h
  M_mono := fun _ h => h
  M_bound := fun h => h
  M_move := fun _ h => h
  M_lower := fun _ h => h
def wordsL (b : Nat) (ty : Int) : List Spot := [(0, 100, ⟨b, 0, none⟩), (157, 100, ⟨b, 2, none⟩)] ++ if ty = 77 then [] else [(345, 155, ⟨b, 1, none⟩)]
def numbersL (b : Nat) (ty : Int) : List Spot := [(100, 8, ⟨b, 3, none⟩), (108, 8, ⟨b, 4, none⟩), (116, 8, ⟨b, 5, none⟩), (124, 12, ⟨b, 6, none⟩), (136, 12, ⟨b, 7, none⟩)] ++ if ty = 77 then [(369, 12, ⟨b, 9, none⟩), (483, 12, ⟨b, 10, none⟩)] else []
set_option maxHeartbeats 4000000 in
set_option maxRecDepth 100000 in
theorem head_words.at_ (b : Nat) (cs : Array Value) (ty : Int) (hty : cs[8]? = some (.int .u8 ty)) (W : World) (hb : W.heap[b]? = some (.cells cs 83 (0, 0))) :
    Calls Tryz.prog 81 #[.pointer (some ⟨b, 0, none⟩)] W fun e w' => ∃ v, e = .returned v ∧ Kd.R kSpot 114 w' W.heap.size (fun _ => True) v (wordsL b ty) ∧ Below W.heap.size W w' := by
  have hc8 := (blk_cell hb 8).trans hty
  have hlt := blk_lt hb
  obtain ⟨wl, hwl⟩ : ∃ wl, wordsL b ty = wl := ⟨_, rfl⟩
  rw [hwl]
  have HWL := Aside0.mk hwl
  clear hb hwl
  go_enter Tryz.func81, Tryz.ntmps81
  go_wp2_with (fail)
  go_region_held3 (fun w' => w'.cell? ⟨b, 8, none⟩ = some (.int .u8 ty)) (go_keep) (fail)
  have hlit : Kd.R kSpot 114 ((W.alloc (.cells #[.int .i64 0, .int .i64 100, .pointer (some ⟨b, 0, none⟩), .int .i64 157, .int .i64 100, .pointer (some ⟨b, 2, none⟩)] 114)).drew) W.heap.size (fun _ => True) (.slice (some ⟨W.heap.size, 0, none⟩) 2 2) [(0, 100, ⟨b, 0, none⟩), (157, 100, ⟨b, 2, none⟩)] := by
    have h2 := World.ownsRow_lit (base := W.heap.size) (e := 114) (size := 3) W #[.int .i64 0, .int .i64 100, .pointer (some ⟨b, 0, none⟩), .int .i64 157, .int .i64 100, .pointer (some ⟨b, 2, none⟩)] 2 (Nat.le_refl _) (by decide) rfl
    exact Kd.R_drew ⟨fun _ _ => trivial, _, h2, Reps.c3 rfl (Reps.c3 rfl (Reps.none _ _))⟩
  have hB1 := below_drew (below_alloc (Below.refl W.heap.size W) (.cells #[.int .i64 0, .int .i64 100, .pointer (some ⟨b, 0, none⟩), .int .i64 157, .int .i64 100, .pointer (some ⟨b, 2, none⟩)] 114))
  obtain ⟨W1, hW1⟩ : ∃ W1, (W.alloc (.cells #[.int .i64 0, .int .i64 100, .pointer (some ⟨b, 0, none⟩), .int .i64 157, .int .i64 100, .pointer (some ⟨b, 2, none⟩)] 114)).drew = W1 := ⟨_, rfl⟩
  rw [hW1] at hlit hB1 ⊢
  have hc1 : W1.cell? ⟨b, 8, none⟩ = some (.int .u8 ty) := (hB1.cell (p := ⟨b, 8, none⟩) hlt).trans hc8
  clear hW1 hc8
  have HO := Aside0.mk hlit
  have HB1 := Aside0.mk hB1
  clear hlit hB1
  by_cases h77 : ty = 77
  · subst h77
    go_wp2_with (fail)
    go_ret
    rw [← HWL.out]
    exact ⟨_, rfl, HO.out, HB1.out⟩
  · have hb1 : (ty == 77) = false := beq_eq_false_iff_ne.2 h77
    have hb2 : (ty != 77) = true := by rw [bne, hb1]; rfl
    have hL : wordsL b ty = [(0, 100, ⟨b, 0, none⟩), (157, 100, ⟨b, 2, none⟩)] ++ [(345, 155, ⟨b, 1, none⟩)] := by unfold wordsL; rw [if_neg h77]
    have HL := Aside0.mk hL
    clear hL h77
    go_wp2_with (at_builtin; refine Kd.R_append kSpot (w0 := W) (W := W1) W.heap.size rfl (.tmp 18) (.tmp 23) 109 114 (.agg #[.int .i64 0, .int .i64 0, .pointer none]) 24 rfl Tryz.underlying109 info114 rfl (by decide) (by decide) _ _ (345, 155, ⟨b, 1, none⟩) [.int .i64 345, .int .i64 155, .pointer (some ⟨b, 1, none⟩)] (fun _ => True) (fun _ => False) rfl rfl rfl (fun _ h => h.elim) (fun _ _ => trivial) HO.out HB1.out HB1.out.size (by simp) ?_; intro v1 w1 ho hb hg hat; clear hg hat)
    go_ret
    rw [← HWL.out, HL.out]
    exact ⟨_, rfl, ho, hb⟩
set_option maxHeartbeats 4000000 in
set_option maxRecDepth 100000 in
theorem head_numbers.at_ (b : Nat) (cs : Array Value) (ty : Int) (hty : cs[8]? = some (.int .u8 ty)) (W : World) (hb : W.heap[b]? = some (.cells cs 83 (0, 0))) :
    Calls Tryz.prog 83 #[.pointer (some ⟨b, 0, none⟩)] W fun e w' => ∃ v, e = .returned v ∧ Kd.R kSpot 120 w' W.heap.size (fun _ => True) v (numbersL b ty) ∧ Below W.heap.size W w' := by
  have hc8 := (blk_cell hb 8).trans hty
  have hlt := blk_lt hb
  obtain ⟨wl, hwl⟩ : ∃ wl, numbersL b ty = wl := ⟨_, rfl⟩
  rw [hwl]
  have HWL := Aside0.mk hwl
  clear hb hwl
  go_enter Tryz.func83, Tryz.ntmps83
  go_wp2_with (fail)
  go_region_held3 (fun w' => w'.cell? ⟨b, 8, none⟩ = some (.int .u8 ty)) (go_keep) (fail)
  obtain ⟨row, hrow⟩ : ∃ row : Array Value, #[.int .i64 100, .int .i64 8, .pointer (some ⟨b, 3, none⟩), .int .i64 108, .int .i64 8, .pointer (some ⟨b, 4, none⟩), .int .i64 116, .int .i64 8, .pointer (some ⟨b, 5, none⟩), .int .i64 124, .int .i64 12, .pointer (some ⟨b, 6, none⟩), .int .i64 136, .int .i64 12, .pointer (some ⟨b, 7, none⟩)] = row := ⟨_, rfl⟩
  have hlit : Kd.R kSpot 120 ((W.alloc (.cells row 120)).drew) W.heap.size (fun _ => True) (.slice (some ⟨W.heap.size, 0, none⟩) 5 5) [(100, 8, ⟨b, 3, none⟩), (108, 8, ⟨b, 4, none⟩), (116, 8, ⟨b, 5, none⟩), (124, 12, ⟨b, 6, none⟩), (136, 12, ⟨b, 7, none⟩)] := by
    subst hrow
    have h2 := World.ownsRow_lit (base := W.heap.size) (e := 120) (size := 3) W #[.int .i64 100, .int .i64 8, .pointer (some ⟨b, 3, none⟩), .int .i64 108, .int .i64 8, .pointer (some ⟨b, 4, none⟩), .int .i64 116, .int .i64 8, .pointer (some ⟨b, 5, none⟩), .int .i64 124, .int .i64 12, .pointer (some ⟨b, 6, none⟩), .int .i64 136, .int .i64 12, .pointer (some ⟨b, 7, none⟩)] 5 (Nat.le_refl _) (by decide) rfl
    exact Kd.R_drew ⟨fun _ _ => trivial, _, h2, Reps.c3 rfl (Reps.c3 rfl (Reps.c3 rfl (Reps.c3 rfl (Reps.c3 rfl (Reps.none _ _)))))⟩
  have hB1 := below_drew (below_alloc (Below.refl W.heap.size W) (.cells row 120))
  rw [hrow]
  obtain ⟨W1, hW1⟩ : ∃ W1, (W.alloc (.cells row 120)).drew = W1 := ⟨_, rfl⟩
  rw [hW1] at hlit hB1 ⊢
  have hc1 : W1.cell? ⟨b, 8, none⟩ = some (.int .u8 ty) := (hB1.cell (p := ⟨b, 8, none⟩) hlt).trans hc8
  have HC8 := Aside0.mk hc8
  clear hW1 hc8 hrow
  have HO := Aside0.mk hlit
  have HB1 := Aside0.mk hB1
  clear hlit hB1
  by_cases h77 : ty = 77
  · subst h77
    have hl2 : Kd.C kSpot (W1.alloc (.cells #[.int .i64 369, .int .i64 12, .pointer (some ⟨b, 9, none⟩), .int .i64 483, .int .i64 12, .pointer (some ⟨b, 10, none⟩)] 120)) (some ⟨W1.heap.size, 0, none⟩) 2 [(369, 12, ⟨b, 9, none⟩), (483, 12, ⟨b, 10, none⟩)] := by
      have h2 := World.ownsRow_lit (base := W1.heap.size) (e := 120) (size := 3) W1 #[.int .i64 369, .int .i64 12, .pointer (some ⟨b, 9, none⟩), .int .i64 483, .int .i64 12, .pointer (some ⟨b, 10, none⟩)] 2 (Nat.le_refl _) (by decide) rfl
      have h3 : Kd.R kSpot 120 (W1.alloc (.cells #[.int .i64 369, .int .i64 12, .pointer (some ⟨b, 9, none⟩), .int .i64 483, .int .i64 12, .pointer (some ⟨b, 10, none⟩)] 120)) W1.heap.size (fun _ => True) (.slice (some ⟨W1.heap.size, 0, none⟩) 2 2) [(369, 12, ⟨b, 9, none⟩), (483, 12, ⟨b, 10, none⟩)] := ⟨fun _ _ => trivial, _, h2, Reps.c3 rfl (Reps.c3 rfl (Reps.none _ _))⟩
      exact (Kd.R_reads' h3).2.2
    have HL2 := Aside0.mk hl2
    clear hl2
    go_wp2_with (fail)
    go_region_held3 (fun w' => w'.cell? ⟨b, 8, none⟩ = some (.int .u8 77)) (first | go_keep | exact (hb.cell (p := ⟨b, 8, none⟩) hlt).trans HC8.out) ((refine Kd.R_append_rows_step kSpot (w0 := W) W.heap.size (by rfl) (.tmp 30) (.tmp 39) 116 120 (.agg #[.int .i64 0, .int .i64 0, .pointer none]) 24 (by rfl) Tryz.underlying116 info120 rfl (by decide) (by decide) _ _ [(369, 12, ⟨b, 9, none⟩), (483, 12, ⟨b, 10, none⟩)] (some ⟨W1.heap.size, 0, none⟩) 2 2 (fun _ => True) (fun _ => False) (by rfl) (by rfl) (by (with_reducible repeat (first | apply Kd.R_alloc | apply Kd.R_drewN | apply Kd.R_drew)); exact HO.out) (Kd.C_below HL2.out (by repeat (first | exact Below.refl _ _ | apply below_drew | apply pw_below_drewN))) (fun _ _ h => h) (fun _ h => h.elim) (fun _ _ => trivial) (by repeat (first | (with_reducible first | exact HB1.out | apply below_alloc | apply pw_below_drewN | apply below_drew))) (by have := HB1.out.size; simp; omega) (by simp) ?_; intro v1 w1 ho hb hg hat; clear hg hat))
    go_wp2_with (fail)
    go_ret
    rw [← HWL.out]
    exact ⟨_, rfl, ho, hb⟩
  · have hb1 : (ty == 77) = false := beq_eq_false_iff_ne.2 h77
    have hb2 : (ty != 77) = true := by rw [bne, hb1]; rfl
    have hL : numbersL b ty = [(100, 8, ⟨b, 3, none⟩), (108, 8, ⟨b, 4, none⟩), (116, 8, ⟨b, 5, none⟩), (124, 12, ⟨b, 6, none⟩), (136, 12, ⟨b, 7, none⟩)] := by unfold numbersL; rw [if_neg h77, List.append_nil]
    have HL := Aside0.mk hL
    clear hL h77
    go_wp2_with (fail)
    go_ret
    rw [← HWL.out, HL.out]
    exact ⟨_, rfl, HO.out, HB1.out⟩
end
section
open Go.Proofs.YtpedagpcblnnhaaGreatY
abbrev Hd := S83
def hdCells (h : Hd) : List Value := [.string h.f0, .string h.f1, .string h.f2, .int .i64 h.f3, .int .i64 h.f4, .int .i64 h.f5, .int .i64 h.f6, .int .i64 h.f7, .int .u8 h.f8, .int .i64 h.f9, .int .i64 h.f10]
def hdWords (h : Hd) : List (Int × Int × Nat × ByteArray) := [(0, 100, 0, h.f0), (157, 100, 2, h.f2)] ++ if h.f8 = 77 then [] else [(345, 155, 1, h.f1)]
def hdNumbers (h : Hd) : List (Int × Int × Nat × Int) := [(100, 8, 3, h.f3), (108, 8, 4, h.f4), (116, 8, 5, h.f5), (124, 12, 6, h.f6), (136, 12, 7, h.f7)] ++ if h.f8 = 77 then [(369, 12, 9, h.f9), (483, 12, 10, h.f10)] else []
theorem words_hd (b : Nat) (h : Hd) : wordsL b h.f8 = (hdWords h).map fun x => (x.1, x.2.1, ⟨b, x.2.2.1, none⟩) := by
  unfold wordsL hdWords
  split <;> rfl
theorem numbers_hd (b : Nat) (h : Hd) : numbersL b h.f8 = (hdNumbers h).map fun x => (x.1, x.2.1, ⟨b, x.2.2.1, none⟩) := by
  unfold numbersL hdNumbers
  split <;> rfl
theorem hdWords_cell (h : Hd) : ∀ x ∈ hdWords h, (hdCells h)[x.2.2.1]? = some (.string x.2.2.2) ∧ 100 ≤ x.2.1 ∧ x.2.1 ≤ 155 ∧ 0 ≤ x.1 ∧ x.1 ≤ 345 := by
  unfold hdWords
  intro x hx
  split at hx
  · simp only [List.append_nil, List.mem_cons, List.not_mem_nil, or_false] at hx
    rcases hx with rfl | rfl <;> exact ⟨rfl, by simp, by simp, by simp, by simp⟩
  · simp only [List.cons_append, List.nil_append, List.mem_cons, List.not_mem_nil, or_false] at hx
    rcases hx with rfl | rfl | rfl <;> exact ⟨rfl, by simp, by simp, by simp, by simp⟩
def hdIn (h : Hd) : Prop := (0 ≤ h.f8 ∧ h.f8 ≤ 255) ∧ h.f3 ≤ 9223372036854775807 ∧ h.f4 ≤ 9223372036854775807 ∧ h.f5 ≤ 9223372036854775807 ∧ h.f6 ≤ 9223372036854775807 ∧ h.f7 ≤ 9223372036854775807 ∧ h.f9 ≤ 9223372036854775807 ∧ h.f10 ≤ 9223372036854775807
instance (h : Hd) : Decidable (hdIn h) := by unfold hdIn; exact inferInstance
theorem hdNumbers_cell (h : Hd) (hh : hdIn h) : ∀ x ∈ hdNumbers h, (hdCells h)[x.2.2.1]? = some (.int .i64 x.2.2.2) ∧ 8 ≤ x.2.1 ∧ x.2.1 ≤ 12 ∧ 0 ≤ x.1 ∧ x.1 ≤ 483 ∧ x.2.2.2 ≤ 9223372036854775807 := by
  obtain ⟨_, h3, h4, h5, h6, h7, h9, h10⟩ := hh
  unfold hdNumbers
  intro x hx
  split at hx
  · simp only [List.cons_append, List.nil_append, List.mem_cons, List.not_mem_nil, or_false] at hx
    rcases hx with rfl | rfl | rfl | rfl | rfl | rfl | rfl <;> exact ⟨rfl, by simp, by simp, by simp, by simp, by assumption⟩
  · simp only [List.append_nil, List.mem_cons, List.not_mem_nil, or_false] at hx
    rcases hx with rfl | rfl | rfl | rfl | rfl <;> exact ⟨rfl, by simp, by simp, by simp, by simp, by assumption⟩
def noNought (s : ByteArray) : Bool := decide (Lib.indexByte s.data.toList 0 < 0)
def wordOk (s : ByteArray) (wide : Int) : Bool := decide ((s.size : Int) ≤ wide) && noNought s
def typeOk (t : Int) : Bool := decide (0 ≤ Lib.indexByte [48, 49, 50, 53, 75, 76, 77, 86] t.toNat.toUInt8)
def hdA (h : Hd) : Bool := !(h.f0.toList == ([] : List UInt8)) && (typeOk h.f8 && (if h.f8 = 77 then h.f1.toList == ([] : List UInt8) else h.f9 == 0 && h.f10 == 0))
def hdOk (h : Hd) : Bool := hdA h && ((hdWords h).all (fun x => wordOk x.2.2.2 x.2.1) && (hdNumbers h).all (fun x => (putN x.2.2.2 x.2.1).2))
theorem strings_IndexByte.q (s : ByteArray) (c : Int) (W : World) :
    Calls Tryz.prog 77 #[.string s, .int .u8 c] W fun e w' => e = .returned (.int .i64 (Lib.indexByte s.data.toList c.toNat.toUInt8)) ∧ ∃ n, w' = W.drewN n := by
  refine (strings_IndexByte.calls s c _ W rfl).mono ?_
  rintro e w' ⟨rfl, ⟨h⟩⟩
  exact ⟨rfl, h⟩
def head_May.f (a0 a1 a2 : ByteArray) (a3 a4 a5 a6 a7 a8 a9 a10 : Int) : Option Bool :=
  if hdIn ⟨a0, a1, a2, a3, a4, a5, a6, a7, a8, a9, a10⟩ then some (hdOk ⟨a0, a1, a2, a3, a4, a5, a6, a7, a8, a9, a10⟩) else none
theorem ix_neg {x : Int} {b : Bool} (h : decide (0 ≤ x) = b) : decide (x < 0) = !b := by
  subst h
  by_cases h : 0 ≤ x
  · rw [decide_eq_true h, decide_eq_false (by omega)]; rfl
  · rw [decide_eq_false h, decide_eq_true (by omega)]; rfl
theorem ne_of_beq {x y : Int} {b : Bool} (h : (x == y) = b) : (x != y) = !b := by rw [bne, h]
set_option maxHeartbeats 8000000 in
set_option maxRecDepth 100000 in
theorem head_May.first (h : Hd) (w : World) (h1 : hdA h = false) :
    Calls Tryz.prog 80 #[.agg (hdCells h).toArray] w fun e w' => e = .returned (.bool false) ∧ Below w.heap.size w w' := by
  obtain ⟨f0, f1, f2, f3, f4, f5, f6, f7, f8, f9, f10⟩ := h
  simp only [hdCells, hdA] at h1 ⊢
  have hq := fun (w : World) => strings_IndexByte.q (ByteArray.mk #[48, 49, 50, 53, 75, 76, 77, 86]) f8 w
  cases b0 : (f0.toList == ([] : List UInt8))
  · cases b1 : typeOk f8
    · have b1' := ix_neg b1
      clear h1 b1
      go_enter Tryz.func80, Tryz.ntmps80
      go_wp2_with (first | (go_at_call 77; refine (hq _).mono ?_; rintro e w' ⟨rfl, nd, rfl⟩))
      go_ret
      exact ⟨rfl, pw_below_drewN (below_alloc (Below.refl _ _) _) _⟩
    · have b1' := ix_neg b1
      rw [b0, b1] at h1
      clear b1
      by_cases c77 : f8 = 77
      · rw [if_pos c77] at h1
        have b2 : (f8 == 77) = true := beq_iff_eq.2 c77
        have b2' := ne_of_beq b2
        have b3 : (f1.toList == ([] : List UInt8)) = false := by simpa using h1
        clear h1 c77
        go_enter Tryz.func80, Tryz.ntmps80
        go_wp2_with (first | (go_at_call 77; refine (hq _).mono ?_; rintro e w' ⟨rfl, nd, rfl⟩))
        go_ret
        exact ⟨rfl, pw_below_drewN (below_alloc (Below.refl _ _) _) _⟩
      · rw [if_neg c77] at h1
        have b2 : (f8 == 77) = false := beq_eq_false_iff_ne.2 c77
        have b2' := ne_of_beq b2
        cases b4 : (f9 == 0)
        · have b4' := ne_of_beq b4
          clear h1 c77
          go_enter Tryz.func80, Tryz.ntmps80
          go_wp2_with (first | (go_at_call 77; refine (hq _).mono ?_; rintro e w' ⟨rfl, nd, rfl⟩))
          go_ret
          exact ⟨rfl, pw_below_drewN (below_alloc (Below.refl _ _) _) _⟩
        · have b4' := ne_of_beq b4
          rw [b4] at h1
          have b5 : (f10 == 0) = false := by simpa using h1
          have b5' := ne_of_beq b5
          clear h1 c77
          go_enter Tryz.func80, Tryz.ntmps80
          go_wp2_with (first | (go_at_call 77; refine (hq _).mono ?_; rintro e w' ⟨rfl, nd, rfl⟩))
          go_ret
          exact ⟨rfl, pw_below_drewN (below_alloc (Below.refl _ _) _) _⟩
  · clear h1
    go_enter Tryz.func80, Tryz.ntmps80
    go_wp2_with (fail)
    go_ret
    exact ⟨rfl, below_alloc (Below.refl _ _) _⟩
theorem kSpot_at {w : World} {base e : Nat} {ok : Nat → Prop} {v : Value} {l : List Spot} (h : Kd.R kSpot e w base ok v l) {k : Nat} (hk : k < l.length) :
    ∃ g c, v = .slice (some ⟨g, 0, none⟩) l.length c ∧ base ≤ g ∧ w.cell? ⟨g, k * 3, none⟩ = some (.int .i64 l[k].1) ∧ w.cell? ⟨g, k * 3 + 1, none⟩ = some (.int .i64 l[k].2.1) ∧ w.cell? ⟨g, k * 3 + 2, none⟩ = some (.pointer (some l[k].2.2)) := by
  obtain ⟨g, c, hv, hb, _, _⟩ := Kd.R_form h (by omega)
  subst hv
  obtain ⟨ad, cs, hA, _, hK, hc⟩ := Kd.C_get (Kd.R_reads' h).2.2 l[k] (k : Int) (by omega) (by omega)
  injection hA with hA
  subst hA
  have e : l.getD (k : Int).toNat l[k] = l[k] := by simp [List.getD_eq_getElem?_getD, List.getElem?_eq_getElem hk]
  rw [e] at hK
  have hcs : cs = spotV l[k] := hK
  subst hcs
  have h0 := hc 0 _ rfl
  have h1 := hc 1 _ rfl
  have h2 := hc 2 _ rfl
  simp only [Int.toNat_natCast, add_plain, Nat.add_zero, show kSpot.sz = 3 from rfl] at h0 h1 h2
  exact ⟨g, c, rfl, hb, h0, h1, h2⟩
set_option maxHeartbeats 8000000 in
set_option maxRecDepth 100000 in
theorem head_May.pass (h : Hd) (w : World) (hh : hdIn h) (h1 : hdA h = true) :
    Calls Tryz.prog 80 #[.agg (hdCells h).toArray] w fun e w' => e = .returned (.bool ((hdWords h).all (fun x => wordOk x.2.2.2 x.2.1) && (hdNumbers h).all (fun x => (putN x.2.2.2 x.2.1).2))) ∧ Below w.heap.size w w' := by
  have hW : ∀ x ∈ hdWords h, (hdCells h)[x.2.2.1]? = some (.string x.2.2.2) ∧ 100 ≤ x.2.1 ∧ x.2.1 ≤ 155 ∧ 0 ≤ x.1 ∧ x.1 ≤ 345 := hdWords_cell h
  have hN := hdNumbers_cell h hh
  obtain ⟨rr, hrr⟩ : ∃ rr, ((hdWords h).all (fun x => wordOk x.2.2.2 x.2.1) && (hdNumbers h).all (fun x => (putN x.2.2.2 x.2.1).2)) = rr := ⟨_, rfl⟩
  rw [hrr]
  have HRR := Aside0.mk hrr
  have hwl := words_hd w.heap.size h
  have hnl := numbers_hd w.heap.size h
  have hcw := fun (W : World) (hb : W.heap[w.heap.size]? = some (.cells (hdCells h).toArray 83 (0, 0))) => head_words.at_ w.heap.size (hdCells h).toArray h.f8 rfl W hb
  have hcn := fun (W : World) (hb : W.heap[w.heap.size]? = some (.cells (hdCells h).toArray 83 (0, 0))) => head_numbers.at_ w.heap.size (hdCells h).toArray h.f8 rfl W hb
  rw [hwl] at hcw
  rw [hnl] at hcn
  have hwlen : (hdWords h).length ≤ 3 := by unfold hdWords; split <;> simp
  have hnlen : (hdNumbers h).length ≤ 7 := by unfold hdNumbers; split <;> simp
  generalize hdWords h = ws at *
  generalize hdNumbers h = ns at *
  have hcw2 : ∀ (W : World) (hb : W.heap[w.heap.size]? = some (.cells (hdCells h).toArray 83 (0, 0))), Calls Tryz.prog 81 #[.pointer (some ⟨w.heap.size, 0, none⟩)] W fun e w' => ∃ A c, e = .returned (.slice A ws.length c) ∧ Kd.R kSpot 114 w' W.heap.size (fun _ => True) (.slice A ws.length c) (ws.map fun x => (x.1, x.2.1, ⟨w.heap.size, x.2.2.1, none⟩)) ∧ Below W.heap.size W w' := fun W hb => (hcw W hb).mono (by
    rintro e w' ⟨v, rfl, hR, hB⟩
    obtain ⟨A, c, hv⟩ := Kd.R_slice hR
    rw [List.length_map] at hv
    subst hv
    exact ⟨A, c, rfl, hR, hB⟩)
  have hcn2 : ∀ (W : World) (hb : W.heap[w.heap.size]? = some (.cells (hdCells h).toArray 83 (0, 0))), Calls Tryz.prog 83 #[.pointer (some ⟨w.heap.size, 0, none⟩)] W fun e w' => ∃ A c, e = .returned (.slice A ns.length c) ∧ Kd.R kSpot 120 w' W.heap.size (fun _ => True) (.slice A ns.length c) (ns.map fun x => (x.1, x.2.1, ⟨w.heap.size, x.2.2.1, none⟩)) ∧ Below W.heap.size W w' := fun W hb => (hcn W hb).mono (by
    rintro e w' ⟨v, rfl, hR, hB⟩
    obtain ⟨A, c, hv⟩ := Kd.R_slice hR
    rw [List.length_map] at hv
    subst hv
    exact ⟨A, c, rfl, hR, hB⟩)
  have HCW := Aside0.mk hcw2
  have HCN := Aside0.mk hcn2
  have HW := Aside0.mk hW
  have HN := Aside0.mk hN
  have HBX := Aside0.mk (heap_alloc_new w (.cells (hdCells h).toArray 83))
  have HB0 := Aside0.mk (below_alloc (Below.refl w.heap.size w) (.cells (hdCells h).toArray 83))
  obtain ⟨f0, f1, f2, f3, f4, f5, f6, f7, f8, f9, f10⟩ := h
  clear hh hrr hwl hnl hcw hcn hcw2 hcn2 hW hN
  have b0 : (f0.toList == ([] : List UInt8)) = false := by
    unfold hdA at h1
    simp only [Bool.and_eq_true, Bool.not_eq_true'] at h1
    exact h1.1
  have b1 : typeOk f8 = true := by
    unfold hdA at h1
    simp only [Bool.and_eq_true, Bool.not_eq_true'] at h1
    exact h1.2.1
  have b1' := ix_neg b1
  have hq := fun (w : World) => strings_IndexByte.q (ByteArray.mk #[48, 49, 50, 53, 75, 76, 77, 86]) f8 w
  have hcase : ((f8 == 77) = true ∧ (f1.toList == ([] : List UInt8)) = true) ∨ ((f8 == 77) = false ∧ (f9 == 0) = true ∧ (f10 == 0) = true) := by
    unfold hdA at h1
    rw [b0, b1] at h1
    by_cases c : f8 = 77
    · rw [if_pos c] at h1
      exact .inl ⟨beq_iff_eq.2 c, by simpa using h1⟩
    · rw [if_neg c] at h1
      exact .inr ⟨beq_eq_false_iff_ne.2 c, by simpa using h1⟩
  simp only [hdCells] at HBX HB0 HCW HCN ⊢
  clear h1 b1
  rcases hcase with ⟨b2, b3⟩ | ⟨b2, b4, b5⟩
  all_goals
    have b2' := ne_of_beq b2
    try have b4' := ne_of_beq b4
    try have b5' := ne_of_beq b5
    go_enter Tryz.func80, Tryz.ntmps80
    go_wp2_with (first | (go_at_call 77; refine (hq _).mono ?_; rintro e w' ⟨rfl, nd, rfl⟩) | (go_at_call 81; refine (HCW.out _ (by exact HBX.out)).mono ?_; rintro e w1 ⟨A1, c1, rfl, hR, hb1⟩))
    have HB1 := Aside0.mk (below_then (pw_below_drewN HB0.out nd) (by simp) hb1)
    have HBX1 := Aside0.mk (blk_below (blk_drewN HBX.out nd) hb1)
    have HR1 := Aside0.mk (Kd.R_lower (base' := w.heap.size + 1) hR (by simp))
    clear hb1 hR
    go_loopw [43] (fun v43 wr => ∃ k : Nat, v43 = .int .i64 k ∧ k ≤ ws.length ∧ Aside0 ((ws.take k).all (fun x => wordOk x.2.2.2 x.2.1) = true) ∧ Aside0 (Below w.heap.size w wr) ∧ Aside0 (wr.heap[w.heap.size]? = some (.cells (hdCells ⟨f0, f1, f2, f3, f4, f5, f6, f7, f8, f9, f10⟩).toArray 83 (0, 0))) ∧ Aside0 (Kd.R kSpot 114 wr (w.heap.size + 1) (fun _ => True) (.slice A1 ws.length c1) (ws.map fun x => (x.1, x.2.1, ⟨w.heap.size, x.2.2.1, none⟩)))) (fun v43 _ => ws.length - (intOf v43).toNat)
    case atStart => exact ⟨0, rfl, Nat.zero_le _, ⟨by simp⟩, HB1, HBX1, HR1⟩
    case round =>
      obtain ⟨k, rfl, hk, HP, HB, HX, HR⟩ := hrel
      clear HB1 HBX1 HR1 HB0 HBX
      by_cases hlt : k < ws.length
      · obtain ⟨g, c, hv, hgb, k0, k1, k2⟩ := kSpot_at HR.out (k := k) (by rw [List.length_map]; exact hlt)
        rw [List.length_map] at hv
        injection hv with e1 e2 e3
        subst e1 e3
        clear e2
        simp only [List.getElem_map] at k0 k1 k2
        obtain ⟨hcell, hx1, hx2, hx3, hx4⟩ := HW.out ws[k] (List.getElem_mem hlt)
        have htk : ws.take (k + 1) = ws.take k ++ [ws[k]] := List.take_succ_eq_append_getElem hlt
        have hdr : ws = ws.take k ++ ws[k] :: ws.drop (k + 1) := by rw [← List.drop_eq_getElem_cons hlt]; exact (List.take_append_drop k ws).symm
        generalize ws[k] = x at *
        obtain ⟨xa, xw, xj, xs⟩ := x
        simp only at k0 k1 k2 hcell hx1 hx2 hx3 hx4
        have hxc := (blk_cell HX.out xj).trans (by simpa using hcell)
        have hqq := fun (w : World) (n : Nat) => Calls.quiet_of (strings_IndexByte.q xs 0 (w.drewN n))
        have HTK := Aside0.mk htk
        have HDR := Aside0.mk hdr
        have hlt2 : (k : Int) < (ws.length : Int) := by omega
        have hk0 : (0 : Int) ≤ (k : Int) := by omega
        clear htk hdr hx1 hx3 hx4
        have hne : w.heap.size ≠ wr.heap.size := by have := blk_lt HX.out; omega
        have hltb : w.heap.size < wr.heap.size := blk_lt HX.out
        have hBn := HB.out.alloc HB.out.size (.cells #[.int .i64 xa, .int .i64 xw, .pointer (some ⟨w.heap.size, xj, none⟩)] 114)
        have hRn := Kd.R_alloc HR.out (.cells #[.int .i64 xa, .int .i64 xw, .pointer (some ⟨w.heap.size, xj, none⟩)] 114)
        have hXn := blk_alloc HX.out (.cells #[.int .i64 xa, .int .i64 xw, .pointer (some ⟨w.heap.size, xj, none⟩)] 114)
        have y0 := blk_cell (heap_alloc_new wr (.cells #[.int .i64 xa, .int .i64 xw, .pointer (some ⟨w.heap.size, xj, none⟩)] 114)) 0
        have y1 := blk_cell (heap_alloc_new wr (.cells #[.int .i64 xa, .int .i64 xw, .pointer (some ⟨w.heap.size, xj, none⟩)] 114)) 1
        have y2 := blk_cell (heap_alloc_new wr (.cells #[.int .i64 xa, .int .i64 xw, .pointer (some ⟨w.heap.size, xj, none⟩)] 114)) 2
        simp only [List.getElem?_toArray, List.getElem?_cons_succ, List.getElem?_cons_zero] at y0 y1 y2
        have y3 := (blk_cell hXn xj).trans (by simpa using hcell)
        have HBN := Aside0.mk hBn
        have HRN := Aside0.mk hRn
        have HXN := Aside0.mk hXn
        clear hBn hRn hXn hxc
        go_wp2_with (fail)
        obtain ⟨W2, hW2⟩ : ∃ W2, wr.alloc (.cells #[.int .i64 xa, .int .i64 xw, .pointer (some ⟨w.heap.size, xj, none⟩)] 114) = W2 := ⟨_, rfl⟩
        rw [hW2] at HBN HRN HXN y0 y1 y2 y3 ⊢
        clear hW2
        by_cases hsz : (xs.size : Int) > xw
        · have hszb := decide_eq_true hsz
          have HOK := Aside0.mk (show wordOk xs xw = false by unfold wordOk; rw [decide_eq_false (by omega)]; rfl)
          clear hsz
          go_quiet (fail)
          go_wp2_with (fail)
          go_ret
          refine ⟨?_, pw_below_drewN HBN.out _⟩
          have : ws.all (fun x => wordOk x.2.2.2 x.2.1) = false := by rw [HDR.out, List.all_append, List.all_cons, HOK.out]; simp
          have h3 := HRR.out
          rw [this, Bool.false_and] at h3
          rw [← h3]
          rfl
        · have hszb := decide_eq_false hsz
          cases hno : noNought xs
          · have HOK := Aside0.mk (show wordOk xs xw = false by unfold wordOk; rw [hno, Bool.and_false])
            have hge : decide (Lib.indexByte xs.data.toList 0 ≥ 0) = true := by
              unfold noNought at hno
              exact decide_eq_true (by have := of_decide_eq_false hno; omega)
            clear hsz hno
            go_quiet ((go_at_call 77; exact hqq _ _))
            go_wp2_with (fail)
            go_ret
            refine ⟨?_, pw_below_drewN HBN.out _⟩
            have : ws.all (fun x => wordOk x.2.2.2 x.2.1) = false := by rw [HDR.out, List.all_append, List.all_cons, HOK.out]; simp
            have h3 := HRR.out
            rw [this, Bool.false_and] at h3
            rw [← h3]
            rfl
          · have HOK := Aside0.mk (show wordOk xs xw = true by unfold wordOk; rw [hno, decide_eq_true (by omega)]; rfl)
            have hge : decide (Lib.indexByte xs.data.toList 0 ≥ 0) = false := by
              unfold noNought at hno
              exact decide_eq_false (by have := of_decide_eq_true hno; omega)
            clear hsz hno
            go_quiet ((go_at_call 77; exact hqq _ _))
            go_wp2_with (fail)
            go_roundw
            case rel => exact ⟨k + 1, by go_num, by omega, ⟨by rw [HTK.out, List.all_append, HP.out, List.all_cons, HOK.out]; rfl⟩, ⟨pw_below_drewN HBN.out _⟩, ⟨blk_drewN HXN.out _⟩, ⟨Kd.R_drewN HRN.out _⟩⟩
            case measure => simp [intOf]; omega
      · obtain rfl : k = ws.length := by omega
        have hwsok : ws.all (fun x => wordOk x.2.2.2 x.2.1) = true := by have := HP.out; rwa [List.take_length] at this
        have HWS := Aside0.mk hwsok
        clear hwsok
        go_wp2_with (first | (go_at_call 83; refine (HCN.out _ (by exact HX.out)).mono ?_; rintro e w2 ⟨A2, c2, rfl, hR2, hb2⟩))
        have HB2 := Aside0.mk (below_then HB.out HB.out.size hb2)
        have HBX2 := Aside0.mk (blk_below HX.out hb2)
        have HR2 := Aside0.mk (Kd.R_lower (base' := w.heap.size + 1) hR2 (by have := blk_lt HX.out; omega))
        clear hb2 hR2 HB HX HR HP
        obtain ⟨wo, hwo⟩ : ∃ wo : World, wo = wr := ⟨_, rfl⟩
        go_loopw [66] (fun v66 wr => ∃ k : Nat, v66 = .int .i64 k ∧ k ≤ ns.length ∧ Aside0 ((ns.take k).all (fun x => (putN x.2.2.2 x.2.1).2) = true) ∧ Aside0 (Below w.heap.size w wr) ∧ Aside0 (wr.heap[w.heap.size]? = some (.cells (hdCells ⟨f0, f1, f2, f3, f4, f5, f6, f7, f8, f9, f10⟩).toArray 83 (0, 0))) ∧ Aside0 (Kd.R kSpot 120 wr (w.heap.size + 1) (fun _ => True) (.slice A2 ns.length c2) (ns.map fun x => (x.1, x.2.1, ⟨w.heap.size, x.2.2.1, none⟩)))) (fun v66 _ => ns.length - (intOf v66).toNat)
        case atStart => exact ⟨0, rfl, Nat.zero_le _, ⟨by simp⟩, HB2, HBX2, HR2⟩
        case round =>
          clear hwo
          obtain ⟨k, rfl, hk, HP, HB, HX, HR⟩ := hrel
          clear HB2 HBX2 HR2
          by_cases hlt : k < ns.length
          · obtain ⟨g, c, hv, hgb, k0, k1, k2⟩ := kSpot_at HR.out (k := k) (by rw [List.length_map]; exact hlt)
            rw [List.length_map] at hv
            injection hv with e1 e2 e3
            subst e1 e3
            clear e2
            simp only [List.getElem_map] at k0 k1 k2
            obtain ⟨hcell, hx1, hx2, hx3, hx4, hx5⟩ := HN.out ns[k] (List.getElem_mem hlt)
            have htk : ns.take (k + 1) = ns.take k ++ [ns[k]] := List.take_succ_eq_append_getElem hlt
            have hdr : ns = ns.take k ++ ns[k] :: ns.drop (k + 1) := by rw [← List.drop_eq_getElem_cons hlt]; exact (List.take_append_drop k ns).symm
            generalize ns[k] = x at *
            obtain ⟨xa, xw, xj, xn⟩ := x
            simp only at k0 k1 k2 hcell hx1 hx2 hx3 hx4 hx5
            obtain ⟨pl, pb, hput⟩ : ∃ l b, putN xn xw = (l, b) := ⟨_, _, rfl⟩
            have HPUT := Aside0.mk hput
            have HTK := Aside0.mk htk
            have HDR := Aside0.mk hdr
            have hlt2 : (k : Int) < (ns.length : Int) := by omega
            have hk0 : (0 : Int) ≤ (k : Int) := by omega
            have hltb : w.heap.size < wr.heap.size := blk_lt HX.out
            clear htk hdr hx1 hx3 hx4 hput
            have hBn := HB.out.alloc HB.out.size (.cells #[.int .i64 xa, .int .i64 xw, .pointer (some ⟨w.heap.size, xj, none⟩)] 120)
            have hRn := Kd.R_alloc HR.out (.cells #[.int .i64 xa, .int .i64 xw, .pointer (some ⟨w.heap.size, xj, none⟩)] 120)
            have hXn := blk_alloc HX.out (.cells #[.int .i64 xa, .int .i64 xw, .pointer (some ⟨w.heap.size, xj, none⟩)] 120)
            have y1 := blk_cell (heap_alloc_new wr (.cells #[.int .i64 xa, .int .i64 xw, .pointer (some ⟨w.heap.size, xj, none⟩)] 120)) 1
            have y2 := blk_cell (heap_alloc_new wr (.cells #[.int .i64 xa, .int .i64 xw, .pointer (some ⟨w.heap.size, xj, none⟩)] 120)) 2
            simp only [List.getElem?_toArray, List.getElem?_cons_succ, List.getElem?_cons_zero] at y1 y2
            have y3 := (blk_cell hXn xj).trans (by simpa using hcell)
            have HBN := Aside0.mk hBn
            have HRN := Aside0.mk hRn
            have HXN := Aside0.mk hXn
            clear hBn hRn hXn
            go_wp2_with (fail)
            obtain ⟨W2, hW2⟩ : ∃ W2, wr.alloc (.cells #[.int .i64 xa, .int .i64 xw, .pointer (some ⟨w.heap.size, xj, none⟩)] 120) = W2 := ⟨_, rfl⟩
            rw [hW2] at HBN HRN HXN y1 y2 y3 ⊢
            clear hW2 HB HX HR k0 k1 k2
            go_region_held3 (fun w' => w'.cell? ⟨wr.heap.size, 1, none⟩ = some (.int .i64 xw) ∧ w'.cell? ⟨wr.heap.size, 2, none⟩ = some (.pointer (some ⟨w.heap.size, xj, none⟩)) ∧ w'.cell? ⟨w.heap.size, xj, none⟩ = some (.int .i64 xn)) (first | go_keep | skip) (first | (go_at_call 84; refine (num_Put.at_ _ _ _ _ _ hx5 HPUT).mono ?_; rintro e w3 ⟨A3, c3, rfl, _, _, hb3, _⟩; have z1 := pw_cell_below hb3 y1; have z2 := pw_cell_below hb3 y2; have z3 := pw_cell_below hb3 y3))
            have HB3 := Aside0.mk (below_step (below_drew HBN.out) hb3)
            have HX3 := Aside0.mk (blk_below (blk_drew HXN.out) hb3)
            have HR3 := Aside0.mk (Kd.R_below (Kd.R_drew HRN.out) hb3)
            clear hb3 z1 z2 z3 y1 y2 y3
            cases pb
            · go_wp2_with (fail)
              go_ret
              refine ⟨?_, by repeat (first | (with_reducible first | exact HB3.out | apply pw_below_drewN | apply below_drew) | exact HB3.out)⟩
              have : ns.all (fun x => (putN x.2.2.2 x.2.1).2) = false := by rw [HDR.out, List.all_append, List.all_cons]; simp only [HPUT.out]; simp
              have h3 := HRR.out
              rw [this, Bool.and_false] at h3
              rw [← h3]
              rfl
            · go_wp2_with (fail)
              go_roundw
              case rel => exact ⟨k + 1, by go_num, by omega, ⟨by rw [HTK.out, List.all_append, HP.out, List.all_cons]; simp only [HPUT.out]; rfl⟩, ⟨by repeat (first | (with_reducible first | exact HB3.out | apply pw_below_drewN | apply below_drew) | exact HB3.out)⟩, ⟨by repeat (first | (with_reducible first | exact HX3.out | apply blk_drewN | apply blk_drew) | exact HX3.out)⟩, ⟨by repeat (first | (with_reducible first | exact HR3.out | apply Kd.R_drewN | apply Kd.R_drew) | exact HR3.out)⟩⟩
              case measure => simp [intOf]; omega
          · obtain rfl : k = ns.length := by omega
            have hns : ns.all (fun x => (putN x.2.2.2 x.2.1).2) = true := by have := HP.out; rwa [List.take_length] at this
            have HNS := Aside0.mk hns
            clear hns
            go_wp2_with (fail)
            go_ret
            refine ⟨?_, HB.out⟩
            have h3 := HRR.out
            rw [HWS.out, HNS.out] at h3
            rw [← h3]
            rfl
set_option maxRecDepth 100000 in
theorem head_May.calls (a0_0 a0_1 a0_2 : ByteArray) (a0_3 a0_4 a0_5 a0_6 a0_7 a0_8 a0_9 a0_10 : Int) (r : Bool) (w : World) (h : head_May.f a0_0 a0_1 a0_2 a0_3 a0_4 a0_5 a0_6 a0_7 a0_8 a0_9 a0_10 = some r) :
    Calls Tryz.prog 80 #[.agg #[.string a0_0, .string a0_1, .string a0_2, .int .i64 a0_3, .int .i64 a0_4, .int .i64 a0_5, .int .i64 a0_6, .int .i64 a0_7, .int .u8 a0_8, .int .i64 a0_9, .int .i64 a0_10]] w fun e w' => e = .returned (.bool r) ∧ Below w.heap.size w w' := by
  obtain ⟨hd, hhd⟩ : ∃ hd : Hd, hd = ⟨a0_0, a0_1, a0_2, a0_3, a0_4, a0_5, a0_6, a0_7, a0_8, a0_9, a0_10⟩ := ⟨_, rfl⟩
  have key : Calls Tryz.prog 80 #[.agg (hdCells hd).toArray] w fun e w' => e = .returned (.bool r) ∧ Below w.heap.size w w' := by
    unfold head_May.f at h
    rw [← hhd] at h
    by_cases hh : hdIn hd
    · rw [if_pos hh] at h
      have hr := Option.some.inj h
      rw [← hr]
      unfold hdOk
      cases hA : hdA hd with
      | false => exact head_May.first hd w hA
      | true => rw [Bool.true_and]; exact head_May.pass hd w hh hA
    · rw [if_neg hh] at h
      cases h
  rw [hhd] at key
  exact key
end
section
def head_Sum.l0 : Nat → Int → List Int → Int → Int → Option (Int)
  | 0, _, _, _, _ => none
  | k + 1, x3, x9, x10, x11 => if x11 < x10 then (if 0 ≤ x11 then (if x11 < (x9.length : Int) then (if x11 ≥ 148 then (if x11 < 156 then (head_Sum.l0 k (wrap64 (x3 + 32)) x9 x10 (wrap64 (x11 + 1))) else (head_Sum.l0 k (wrap64 (x3 + (wrap64 (rd x9 x11)))) x9 x10 (wrap64 (x11 + 1)))) else (head_Sum.l0 k (wrap64 (x3 + (wrap64 (rd x9 x11)))) x9 x10 (wrap64 (x11 + 1)))) else (none)) else (none)) else (some x3)
def head_Sum.f (k : Nat) (l0 : List Int) : Option (Int) := if (l0.length : Int) = 512 then (head_Sum.l0 k 0 l0 (l0.length : Int) 0) else (some (-1))
theorem head_Sum.mono_l : ∀ k, (∀ y0 y1 y2 y3, LeO (head_Sum.l0 k y0 y1 y2 y3) (head_Sum.l0 (k + 1) y0 y1 y2 y3))
  | 0 => fun _ _ _ _ r h => by simp [head_Sum.l0] at h
  | k + 1 => by
    have ih0 := head_Sum.mono_l k
    · intro y0 y1 y2 y3
      unfold head_Sum.l0
      repeat' first
      | (with_reducible exact ih0 _ _ _ _)
      | (with_reducible exact LeO.refl _)
      | (with_reducible exact LeO.none _)
      | (with_reducible refine LeO.ite ?_ ?_)
      | (with_reducible refine LeO.bind ?_ (fun _ => ?_))
      | exact ih0 _ _ _ _
      | exact LeO.none _
      | refine LeO.ite ?_ ?_
      | refine LeO.bind ?_ (fun _ => ?_)
theorem head_Sum.mono : ∀ a0 k, LeO (head_Sum.f k a0) (head_Sum.f (k + 1) a0) := by
  intro a0 k
  have ih0 := head_Sum.mono_l k
  unfold head_Sum.f
  repeat' first
      | (with_reducible exact ih0 _ _ _ _)
      | (with_reducible exact LeO.refl _)
      | (with_reducible exact LeO.none _)
      | (with_reducible refine LeO.ite ?_ ?_)
      | (with_reducible refine LeO.bind ?_ (fun _ => ?_))
      | exact ih0 _ _ _ _
      | exact LeO.none _
      | refine LeO.ite ?_ ?_
      | refine LeO.bind ?_ (fun _ => ?_)
set_option maxHeartbeats 8000000 in
set_option maxRecDepth 100000 in
theorem head_Sum.calls (k : Nat) (A0 : Option Addr) (c0 : Nat) (l0 : List Int) (r : Int) (w : World) (hr0 : Kd.C (Kd.int .u8) w A0 l0.length l0) (hc0 : l0.length ≤ c0) (h : head_Sum.f k l0 = some r) :
    Calls Tryz.prog 113 #[.slice A0 l0.length c0] w fun e w' => e = .returned (.int .i64 r) ∧ Drawn0 w w' := by
  have HR0 := Aside0.mk hr0
  have HC0 := Aside0.mk hc0
  clear hr0 hc0
  have H : (if (l0.length : Int) = 512 then (head_Sum.l0 k 0 l0 (l0.length : Int) 0) else (some (-1))) = some r := h
  clear h
  by_cases c2 : (l0.length : Int) = 512
  · rw [if_pos c2] at H
    have c2b0 : ((l0.length : Int) == 512) = true := beq_iff_eq.mpr c2
    have c2b1 : ((l0.length : Int) != 512) = false := bne_eq_false_iff_eq.mpr c2
    clear c2
    have H' := Aside0.mk H
    clear H
    go_enter Tryz.func113, Tryz.ntmps113
    go_wp2
    go_loopg [3, 11] k (fun kq v3 v11 w' => ∃ (x3_1 : Int) (x11_1 : Int), v3 = .int .i64 x3_1 ∧ v11 = .int .i64 x11_1 ∧ Aside0 (head_Sum.l0 kq x3_1 l0 (l0.length : Int) x11_1 = some r) ∧ Aside0 (kq ≤ k) ∧ Drawn0 w w')
    case atStart => exact ⟨(0), (0), (by first | rfl | (simp; done) | (simp [*]; done)), (by first | rfl | (simp; done) | (simp [*]; done)), H', ⟨Nat.le_refl _⟩, by repeat (first | exact Drawn0.refl _ | apply Drawn0.step)⟩
    case round =>
      clear H'
      try clear c1
      try clear c2
      try clear c2b0
      try clear c2b1
      try clear p2
      obtain ⟨x3_1, x11_1, rfl, rfl, HA, HK1, ⟨m1, rfl⟩⟩ := hrel
      cases gk with
      | zero => exact absurd HA.out (by simp [head_Sum.l0])
      | succ k1 =>
        have H := HA.out
        clear HA
        simp only [head_Sum.l0] at H
        by_cases c3 : x11_1 < (l0.length : Int)
        · rw [if_pos c3] at H
          have c3b0 : decide (x11_1 < (l0.length : Int)) = true := decide_eq_true c3
          clear c3
          by_cases c4 : 0 ≤ x11_1
          · rw [if_pos c4] at H
            have c4b0 : decide (0 ≤ x11_1) = true := decide_eq_true c4
            clear c4
            by_cases c5 : x11_1 < (l0.length : Int)
            · rw [if_pos c5] at H
              have c5b0 : decide (x11_1 < (l0.length : Int)) = true := decide_eq_true c5
              clear c5
              by_cases c6 : x11_1 ≥ 148
              · rw [if_pos c6] at H
                have c6b0 : decide (148 ≤ x11_1) = true := decide_eq_true c6
                clear c6
                by_cases c7 : x11_1 < 156
                · rw [if_pos c7] at H
                  have c7b0 : decide (x11_1 < 156) = true := decide_eq_true c7
                  clear c7
                  have H' := Aside0.mk H
                  clear H
                  have p101 : 0 ≤ (x11_1 : Int) := of_decide_eq_true (by first | (with_reducible assumption) | assumption)
                  have q101 : x11_1 < (l0.length : Int) := of_decide_eq_true (by first | (with_reducible assumption) | assumption)
                  obtain ⟨ad101, e101, hx101_0⟩ := Kd.at_int HR0.out x11_1 p101 q101
                  cases e101
                  replace p101 := eq_true p101
                  replace q101 := eq_true q101
                  go_wp2
                  go_roundg k1
                  case measure => have := HK1.out; omega
                  case rel => exact ⟨(wrap64 (x3_1 + 32)), (wrap64 (x11_1 + 1)), (by first | rfl | (simp; done) | (simp [*]; done)), (by first | rfl | (simp; done) | (simp [*]; done)), H', ⟨by have := HK1.out; omega⟩, by repeat (first | exact Drawn0.refl _ | apply Drawn0.step)⟩
                · rw [if_neg c7] at H
                  have c7b0 : decide (x11_1 < 156) = false := decide_eq_false c7
                  clear c7
                  have H' := Aside0.mk H
                  clear H
                  have p101 : 0 ≤ (x11_1 : Int) := of_decide_eq_true (by first | (with_reducible assumption) | assumption)
                  have q101 : x11_1 < (l0.length : Int) := of_decide_eq_true (by first | (with_reducible assumption) | assumption)
                  obtain ⟨ad101, e101, hx101_0⟩ := Kd.at_int HR0.out x11_1 p101 q101
                  cases e101
                  replace p101 := eq_true p101
                  replace q101 := eq_true q101
                  go_wp2
                  go_roundg k1
                  case measure => have := HK1.out; omega
                  case rel => exact ⟨(wrap64 (x3_1 + (wrap64 (rd l0 x11_1)))), (wrap64 (x11_1 + 1)), (by first | rfl | (simp; done) | (simp [*]; done)), (by first | rfl | (simp; done) | (simp [*]; done)), H', ⟨by have := HK1.out; omega⟩, by repeat (first | exact Drawn0.refl _ | apply Drawn0.step)⟩
              · rw [if_neg c6] at H
                have c6b0 : decide (148 ≤ x11_1) = false := decide_eq_false c6
                clear c6
                have H' := Aside0.mk H
                clear H
                have p101 : 0 ≤ (x11_1 : Int) := of_decide_eq_true (by first | (with_reducible assumption) | assumption)
                have q101 : x11_1 < (l0.length : Int) := of_decide_eq_true (by first | (with_reducible assumption) | assumption)
                obtain ⟨ad101, e101, hx101_0⟩ := Kd.at_int HR0.out x11_1 p101 q101
                cases e101
                replace p101 := eq_true p101
                replace q101 := eq_true q101
                go_wp2
                go_roundg k1
                case measure => have := HK1.out; omega
                case rel => exact ⟨(wrap64 (x3_1 + (wrap64 (rd l0 x11_1)))), (wrap64 (x11_1 + 1)), (by first | rfl | (simp; done) | (simp [*]; done)), (by first | rfl | (simp; done) | (simp [*]; done)), H', ⟨by have := HK1.out; omega⟩, by repeat (first | exact Drawn0.refl _ | apply Drawn0.step)⟩
            · rw [if_neg c5] at H
              exact absurd H (by simp)
          · rw [if_neg c4] at H
            exact absurd H (by simp)
        · rw [if_neg c3] at H
          have c3b0 : decide (x11_1 < (l0.length : Int)) = false := decide_eq_false c3
          clear c3
          obtain rfl := Option.some.inj H
          go_wp2
          go_ret
          exact ⟨by first | rfl | (simp; done) | (simp [*]; done), by repeat (first | exact Drawn0.refl _ | apply Drawn0.step)⟩
  · rw [if_neg c2] at H
    have c2b0 : ((l0.length : Int) == 512) = false := beq_eq_false_iff_ne.mpr c2
    have c2b1 : ((l0.length : Int) != 512) = true := bne_iff_ne.mpr c2
    obtain rfl := Option.some.inj H
    go_enter Tryz.func113, Tryz.ntmps113
    go_wp2
    go_ret
    exact ⟨by first | rfl | (simp; done) | (simp [*]; done), by repeat (first | exact Drawn0.refl _ | apply Drawn0.step)⟩
end
section
open Go.Proofs.YtpedagpcblnnhaaGreatY
theorem row_cells {w : World} {A : Option Addr} {x : List Int} (h : Kd.C (Kd.int .u8) w A x.length x) (hp : 0 < (nums .u8 x).length) : ∃ ad, A = some ad ∧ ∀ j v, (nums .u8 x)[j]? = some v → w.cell? (ad.add j) = some v := by
  rw [nums_length] at hp
  obtain ⟨hl, hm, hr⟩ := Kd.reads_of_C (enc := Value.int .u8) (d := (0 : Int)) (h1 := fun _ => rfl) h
  obtain ⟨ad, hA, hc⟩ := hr hp
  refine ⟨ad, hA, fun j v hj => ?_⟩
  obtain ⟨hjl, hv⟩ := List.getElem?_eq_some_iff.1 hj
  rw [nums_length] at hjl
  rw [hc j hjl, ← hv]
  simp [nums, List.getD_eq_getElem?_getD, List.getElem?_eq_getElem hjl]
theorem rows_at {w : World} {A : Option Addr} {rows : List (List Int)} (h : Kd.C (Kd.slice 5 (Kd.int .u8)) w A rows.length rows) {k : Nat} (hk : k < rows.length) :
    ∃ ad A' c', A = some ad ∧ w.cell? (ad.add k) = some (.slice A' rows[k].length c') ∧ Kd.C (Kd.int .u8) w A' rows[k].length rows[k] := by
  obtain ⟨ad, cs, hA, _, hK, hc⟩ := Kd.C_get h rows[k] (k : Int) (by omega) (by omega)
  have e : rows.getD (k : Int).toNat rows[k] = rows[k] := by simp [List.getD_eq_getElem?_getD, List.getElem?_eq_getElem hk]
  rw [e] at hK
  obtain ⟨A', c', hcs, _, hC⟩ := hK
  subst hcs
  have h0 := hc 0 _ rfl
  simp only [Int.toNat_natCast, Nat.add_zero, show (Kd.slice 5 (Kd.int .u8)).sz = 1 from rfl, Nat.mul_one] at h0
  exact ⟨ad, A', c', hA, h0, hC⟩
set_option maxHeartbeats 1600000 in
set_option maxRecDepth 100000 in
theorem head_put.at_ (g : Nat) (l : List Int) (at_ : Nat) (A : Option Addr) (c : Nat) (rows : List (List Int)) (w : World) (hg : w.heap[g]? = some (.cells (nums .u8 l).toArray 5 (0, 0))) (hl : l.length ≤ 4096) (hfit : posAll at_ rows < l.length)
    (hrows : ∀ W', Turn (fun k => k = g) w W' → Kd.C (Kd.slice 5 (Kd.int .u8)) W' A rows.length rows) :
    Calls Tryz.prog 82 #[.agg #[.slice (some ⟨g, 0, none⟩) l.length l.length], .int .i64 at_, .slice A rows.length c] w fun e w' => e = .returned (.tuple #[]) ∧ w'.heap[g]? = some (.cells (nums .u8 (layAll l at_ rows)).toArray 5 (0, 0)) ∧ Turn (fun k => k = g) w w' := by
  have HG := Aside0.mk hg
  have HF := Aside0.mk hfit
  have HR := Aside0.mk hrows
  have hm := (hrows w (Turn.refl _ _)).2.1
  have hgl := blk_lt hg
  clear hg hfit hrows
  have HT0 := Aside0.mk (Turn.alloc (S := fun k => k = g) w (.cells #[.slice (some ⟨g, 0, none⟩) l.length l.length] 106))
  have HG0 := Aside0.mk (blk_alloc HG.out (.cells #[.slice (some ⟨g, 0, none⟩) l.length l.length] 106))
  have HX0 := Aside0.mk (heap_alloc_new w (.cells #[.slice (some ⟨g, 0, none⟩) l.length l.length] 106))
  go_enter Tryz.func82, Tryz.ntmps82
  go_wp2_with (fail)
  go_loopw [1, 10] (fun v1 v10 wr => ∃ k : Nat, v10 = .int .i64 k ∧ k ≤ rows.length ∧ v1 = .int .i64 (posAll at_ (rows.take k) : Nat) ∧ Aside0 (wr.heap[g]? = some (.cells (nums .u8 (layAll l at_ (rows.take k))).toArray 5 (0, 0))) ∧ Aside0 (wr.heap[w.heap.size]? = some (.cells #[.slice (some ⟨g, 0, none⟩) l.length l.length] 106 (0, 0))) ∧ Aside0 (Turn (fun k => k = g) w wr)) (fun _ v10 _ => rows.length - (intOf v10).toNat)
  case atStart => exact ⟨0, rfl, Nat.zero_le _, by simp [posAll], HG0, HX0, HT0⟩
  case round =>
    obtain ⟨k, rfl, hk, rfl, HG, HX, HT⟩ := hrel
    clear HG0 HX0 HT0
    by_cases hlt : k < rows.length
    · obtain ⟨ad, A', c', rfl, hcell, hC⟩ := rows_at (HR.out _ HT.out) hlt
      have htk : rows.take (k + 1) = rows.take k ++ [rows[k]] := List.take_succ_eq_append_getElem hlt
      have hp1 := posAll_take at_ rows (k + 1)
      rw [htk, posAll_snoc] at hp1
      have hp2 := HF.out
      have hll : (layAll l at_ (rows.take k)).length = l.length := layAll_length _ _ _ (by omega)
      obtain ⟨cur, hcur⟩ : ∃ cur, layAll l at_ (rows.take k) = cur := ⟨_, rfl⟩
      obtain ⟨p, hp⟩ : ∃ p, posAll at_ (rows.take k) = p := ⟨_, rfl⟩
      rw [hcur] at hll HG
      rw [hp] at hp1 ⊢
      have HCU := Aside0.mk hcur
      have HPO := Aside0.mk hp
      have HTK := Aside0.mk htk
      have hlt2 : (k : Int) < (rows.length : Int) := by omega
      have hk0 : (0 : Int) ≤ (k : Int) := by omega
      clear hcur hp htk
      generalize rows[k] = x at *
      have hx0 := blk_cell HX.out 0
      simp only [List.size_toArray, List.length_cons, List.length_nil, Nat.zero_add, Nat.lt_one_iff, getElem?_pos, List.getElem_toArray, List.getElem_cons_zero] at hx0
      have hpl : p + x.length < l.length := by omega
      have HCC := Aside0.mk hC
      have HLL := Aside0.mk hll
      have hpc : (p : Int) ≤ (l.length : Int) := by omega
      have hpc2 : ¬ l.length = p := by omega
      have hpc3 : p ≤ l.length := by omega
      clear hC hll hp1 hp2
      have HC1 := Aside0.mk (show (nums .u8 x).length = Nat.min x.length (l.length - p) from (nums_length _ _).trans (Nat.min_eq_left (show x.length ≤ l.length - p by omega)).symm)
      have HC2 := Aside0.mk (show 0 < (nums .u8 x).length → (some (⟨g, p, none⟩ : Addr)) = some ⟨g, p, none⟩ ∧ ∃ ad, A' = some ad ∧ ∀ j v, (nums .u8 x)[j]? = some v → wr.cell? (ad.add j) = some v from fun hp => ⟨rfl, row_cells HCC.out hp⟩)
      have HC3 := Aside0.mk (show p + (nums .u8 x).length ≤ (nums .u8 cur).length by rw [nums_length, nums_length]; have := HLL.out; omega)
      have HC4 := Aside0.mk (show ∀ v ∈ nums .u8 x, v.oneCell' = true from fun u hu => by unfold nums at hu; obtain ⟨_, _, rfl⟩ := List.mem_map.1 hu; rfl)
      have hnl := nums_length .u8 x
      go_wp2_with ((with_reducible refine gate_builtin (b := .copy) (xs := #[.tmp 18, .tmp 19]) rfl ?_); go_must (refine wpList_copy_turn rfl (.tmp 18) (.tmp 19) 43 43 rfl 5 Tryz.underlying43 (by kernel_rfl) _ _ _ _ _ _ rfl rfl g p (nums .u8 cur) 5 HG.out (nums .u8 x) HC1.out HC2.out HC3.out HC4.out ?_; intro w2 hg2 ht2))
      rw [splice_nums] at hg2
      go_roundw
      case rel =>
        refine ⟨k + 1, by go_num, by omega, ?_, ⟨?_⟩, ⟨?_⟩, ⟨HT.out.trans ht2⟩⟩
        · rw [HTK.out, posAll_snoc, HPO.out]; go_num
        · rw [HTK.out, layAll_snoc, HCU.out, HPO.out]; exact hg2
        · exact (ht2.block _ (blk_lt HX.out) (by omega)).trans HX.out
      case measure => simp [intOf]; omega
    · obtain rfl : k = rows.length := by omega
      go_wp2_with (fail)
      go_end0
      have h1 := HG.out
      rw [List.take_length] at h1
      exact ⟨rfl, h1, HT.out⟩
theorem Ev.ifp {α : Type} {c : Prop} [Decidable c] {a b : Nat → Option α} {r : α} (hc : c) (h : Ev a r) : Ev (fun k => if c then a k else b k) r := by simpa only [_root_.if_pos hc] using h
theorem Ev.ifn {α : Type} {c : Prop} [Decidable c] {a b : Nat → Option α} {r : α} (hc : ¬ c) (h : Ev b r) : Ev (fun k => if c then a k else b k) r := by simpa only [_root_.if_neg hc] using h
def sumL : List Int → Nat → Int
  | [], _ => 0
  | c :: r, i => (if 148 ≤ i ∧ i < 156 then 32 else c) + sumL r (i + 1)
theorem sumL_bd : ∀ (l : List Int) (i : Nat), (∀ c ∈ l, 0 ≤ c ∧ c ≤ 255) → 0 ≤ sumL l i ∧ sumL l i ≤ 255 * l.length
  | [], _, _ => by simp [sumL]
  | c :: r, i, h => by
    have h1 := h c (.head _)
    have h2 := sumL_bd r (i + 1) (fun x hx => h x (.tail _ hx))
    rw [sumL]
    split <;> simp only [List.length_cons] <;> omega
theorem head_Sum.ev (l : List Int) (hl : l.length = 512) (hr : ∀ c ∈ l, 0 ≤ c ∧ c ≤ 255) : Ev (fun k => head_Sum.f k l) (sumL l 0) := by
  have key : ∀ (d i : Nat) (s : Int), i + d = 512 → 0 ≤ s → s ≤ 255 * i → Ev (fun k => head_Sum.l0 k s l (l.length : Int) (i : Int)) (s + sumL (l.drop i) i) := by
    intro d
    induction d with
    | zero =>
      intro i s hi h0 h1
      refine Ev.step (fun _ => rfl) ?_
      simp only [head_Sum.l0]
      refine Ev.ifn (by omega) ?_
      rw [List.drop_of_length_le (by omega), sumL, Int.add_zero]
      exact Ev.now _
    | succ d ih =>
      intro i s hi h0 h1
      have hlt : i < l.length := by omega
      have hrd : rd l (i : Int) = l[i] := by unfold rd; simp [List.getD_eq_getElem?_getD, List.getElem?_eq_getElem hlt]
      have hb := hr l[i] (List.getElem_mem hlt)
      have hw : wrap64 ((i : Int) + 1) = ((i + 1 : Nat) : Int) := by unfold wrap64; omega
      have hd : l.drop i = l[i] :: l.drop (i + 1) := List.drop_eq_getElem_cons hlt
      refine Ev.step (fun _ => rfl) ?_
      simp only [head_Sum.l0]
      refine Ev.ifp (by omega) ?_
      refine Ev.ifp (by omega) ?_
      refine Ev.ifp (by omega) ?_
      rw [hw, hrd, hd, sumL]
      have hw2 : wrap64 l[i] = l[i] := by unfold wrap64; omega
      have hw3 : wrap64 (s + l[i]) = s + l[i] := by unfold wrap64; omega
      have hw4 : wrap64 (s + 32) = s + 32 := by unfold wrap64; omega
      rw [hw2, hw3, hw4]
      by_cases c1 : (i : Int) ≥ 148
      · refine Ev.ifp c1 ?_
        by_cases c2 : (i : Int) < 156
        · refine Ev.ifp c2 ?_
          rw [if_pos (by omega), ← Int.add_assoc]
          exact ih (i + 1) (s + 32) (by omega) (by omega) (by omega)
        · refine Ev.ifn c2 ?_
          rw [if_neg (by omega), ← Int.add_assoc]
          exact ih (i + 1) (s + l[i]) (by omega) (by omega) (by omega)
      · refine Ev.ifn c1 ?_
        rw [if_neg (by omega), ← Int.add_assoc]
        exact ih (i + 1) (s + l[i]) (by omega) (by omega) (by omega)
  have h := key 512 0 0 rfl (Int.le_refl _) (by omega)
  rw [List.drop_zero, Int.zero_add] at h
  unfold head_Sum.f
  exact Ev.ifp (by omega) h
def signL (n : Int) : List Int := octL n.toNat 6 ++ [0, 32]
theorem head_Sum.at_ (A : Option Addr) (c : Nat) (l : List Int) (w : World) (hl : l.length = 512) (hr : ∀ c ∈ l, 0 ≤ c ∧ c ≤ 255) (hC : Kd.C (Kd.int .u8) w A l.length l) (hc : l.length ≤ c) :
    Calls Tryz.prog 113 #[.slice A l.length c] w fun e w' => e = .returned (.int .i64 (sumL l 0)) ∧ Drawn0 w w' := by
  obtain ⟨k, hk⟩ := (head_Sum.ev l hl hr).rounds
  exact head_Sum.calls k A c l _ w hC hc hk
set_option maxHeartbeats 1600000 in
set_option maxRecDepth 100000 in
theorem head_sum.at_ (g : Nat) (l : List Int) (w : World) (hg : w.heap[g]? = some (.cells (nums .u8 l).toArray 5 (0, 0))) (hl : l.length = 512) (hr : ∀ c ∈ l, 0 ≤ c ∧ c ≤ 255) :
    Calls Tryz.prog 85 #[.agg #[.slice (some ⟨g, 0, none⟩) l.length l.length]] w fun e w' => ∃ A c, e = .returned (.slice A (signL (sumL l 0)).length c) ∧ (signL (sumL l 0)).length ≤ c ∧ Kd.C (Kd.int .u8) w' A (signL (sumL l 0)).length (signL (sumL l 0)) ∧ Below w.heap.size w w' ∧ (∀ ad, A = some ad → w.heap.size ≤ ad.block) := by
  have hbd := sumL_bd l 0 hr
  rw [hl] at hbd
  have hC : Kd.C (Kd.int .u8) w (some ⟨g, 0, none⟩) l.length l := C_of_cells (by omega) (fun j u hj => by rw [blk_cell hg j, List.getElem?_toArray]; exact hj)
  have hsum := fun (W : World) (hb : Below w.heap.size w W) => head_Sum.at_ (some ⟨g, 0, none⟩) l.length l W hl hr (Kd.C_below hC hb) (Nat.le_refl _)
  obtain ⟨n, hn⟩ := Int.eq_ofNat_of_zero_le hbd.1
  rw [hn] at hsum hbd ⊢
  have hn2 : n ≤ 130560 := by omega
  have hz : n / 8 ^ 6 = 0 := Nat.div_eq_of_lt (by omega)
  have hoct := fun W => num_Octal.calls (n : Int) 6 (strOfNums (octL n 6), true) W (by
    unfold num_Octal.f
    rw [if_neg (by omega)]
    have : octOk (n : Int) 6 = true := by
      unfold octOk
      rw [decide_eq_true (show (0 : Int) ≤ n by omega)]
      simp [hz]
    rw [if_pos this]
    rfl)
  obtain ⟨txt, htxt⟩ : ∃ s, strOfNums (octL n 6) = s := ⟨_, rfl⟩
  rw [htxt] at hoct
  have hbo : bytesOf txt = octL n 6 := by rw [← htxt]; exact bytes_of_nums _ (octL_range 6 n)
  have hsz : txt.size = 6 := by rw [← htxt, strOfNums_size, octL_length]
  have HBO := Aside0.mk hbo
  have HSZ := Aside0.mk hsz
  have HS := Aside0.mk hsum
  have HB0 := Aside0.mk (below_alloc (Below.refl w.heap.size w) (.cells #[.slice (some ⟨g, 0, none⟩) l.length l.length] 108))
  have kb := fun W => print_bytes (P := Tryz.prog) 9 43 5 Tryz.underlying9 Tryz.underlying43 Tryz.underlying5 txt W
  have hsg : signL (n : Int) = octL n 6 ++ [0, 32] := rfl
  rw [hsg]
  clear htxt hbo hsz hsum hC hn hbd hz hg hr hsg hl
  go_enter Tryz.func85, Tryz.ntmps85
  go_wp2_with (first | (go_at_call 113; refine (HS.out _ HB0.out).mono ?_; rintro e w' ⟨rfl, ⟨nd, rfl⟩⟩) | (go_at_call 112; refine (hoct _).mono ?_; rintro e w1 ⟨rfl, hb1⟩) | (at_builtin; refine wpList_append_bytes w1 rfl (.tmp 14) (.tmp 15) 43 5 rfl Tryz.underlying43 info5 txt [0, 32] (by decide) rfl rfl (by have := HSZ.out; simp; omega) ?_; intro g c w2 hg hc hC hb2))
  go_ret
  have e : (octL n 6 ++ [0, 32]).length = txt.size + 2 := by rw [List.length_append, octL_length, HSZ.out]; rfl
  rw [HBO.out] at hC hc
  rw [← e]
  have hz1 : w.heap.size + 1 ≤ w1.heap.size := by have := hb1.size; simpa using this
  refine ⟨_, c, rfl, hc, hC, ?_, fun ad h => by cases h; simp only; omega⟩
  exact below_then (pw_below_drewN HB0.out _) (by simp) (below_then hb1 hb1.size hb2)
end
section
open Go.Proofs.YtpedagpcblnnhaaGreatY
def layWord (b : List Int) (x : Int × Int × Nat × ByteArray) : List Int := splice b x.1.toNat (bytesOf x.2.2.2)
def layNum (b : List Int) (x : Int × Int × Nat × Int) : List Int := splice b x.1.toNat (putN x.2.2.2 x.2.1).1
def blk1 (h : Hd) : List Int := (hdWords h).foldl layWord (List.replicate 512 0)
def blk2 (h : Hd) : List Int := (hdNumbers h).foldl layNum (blk1 h)
def blk3 (h : Hd) : List Int := splice (blk2 h) 156 [h.f8]
def blk4 (h : Hd) : List Int := layAll (blk3 h) 257 [[117, 115, 116, 97, 114], [0], [48, 48]]
def hdBlk (h : Hd) : List Int := splice (blk4 h) 148 (signL (sumL (blk4 h) 0))
def byteOk (l : List Int) : Prop := ∀ c ∈ l, 0 ≤ c ∧ c ≤ 255
theorem byteOk_splice {l x : List Int} {p : Nat} (h : byteOk l) (k : byteOk x) : byteOk (splice l p x) := by
  intro c hc
  unfold splice at hc
  rw [List.mem_append, List.mem_append] at hc
  rcases hc with hc | hc | hc
  · exact h c (List.mem_of_mem_take hc)
  · exact k c hc
  · exact h c (List.mem_of_mem_drop hc)
theorem byteOk_bytesOf (s : ByteArray) : byteOk (bytesOf s) := by
  intro c hc
  unfold bytesOf at hc
  obtain ⟨b, _, rfl⟩ := List.mem_map.1 hc
  have := b.toNat_lt
  omega
theorem byteOk_bytL : ∀ (d n : Nat), byteOk (bytL n d)
  | 0, _, x, h => by simp [bytL] at h
  | d + 1, n, x, h => by
    rw [bytL, List.mem_append, List.mem_singleton] at h
    rcases h with h | rfl
    · exact byteOk_bytL d _ x h
    · have := Nat.mod_lt n (show 0 < 256 by decide); omega
theorem byteOk_putN (n w : Int) : byteOk (putN n w).1 := by
  unfold putN
  split
  · intro c hc; cases hc
  · split
    · intro c hc
      simp only [List.mem_append, List.mem_singleton] at hc
      rcases hc with hc | rfl
      · exact octL_range _ _ c hc
      · decide
    · split
      · intro c hc
        simp only [List.mem_cons] at hc
        rcases hc with rfl | hc
        · decide
        · exact byteOk_bytL _ _ c hc
      · intro c hc; cases hc
theorem putN_length {n w : Int} (h : (putN n w).2 = true) : (putN n w).1.length = w.toNat ∧ 2 ≤ w ∧ w ≤ 20 := by
  unfold putN at h ⊢
  split
  · rename_i c; rw [if_pos c] at h; cases h
  · rename_i c
    rw [if_neg c] at h
    split
    · rw [List.length_append, octL_length]; simp; omega
    · rename_i c2
      rw [if_neg c2] at h
      split
      · rw [List.length_cons, bytL_length]; omega
      · rename_i c3; rw [if_neg c3] at h; cases h
theorem R_of_block {w : World} {g base : Nat} {l : List Int} (hg : w.heap[g]? = some (.cells (nums .u8 l).toArray 5 (0, 0))) (hb : base ≤ g) (hl : l.length ≤ 9223372036854775807) :
    Kd.R (Kd.int .u8) 5 w base (fun _ => True) (.slice (some ⟨g, 0, none⟩) l.length l.length) l := by
  refine Kd.R_of_own (h1 := fun _ => rfl) (enc := Value.int .u8) ?_ (fun _ _ => trivial)
  refine ⟨by simp [encs], .inr ⟨g, l.length, (nums .u8 l).toArray, rfl, hb, hg, Nat.le_refl _, by simpa [maxLen] using hl, by simp [nums], ?_⟩⟩
  unfold nums encs
  simp only [List.toList_toArray, Nat.mul_one]
  exact List.take_of_length_le (by simp)
theorem made_nums (n : Nat) : madeCells #[Value.int .u8 0] n = (nums .u8 (List.replicate n 0)).toArray := by
  apply Array.ext_getElem?
  intro i
  unfold madeCells nums
  by_cases h : i < n <;> simp [h, Nat.mod_one]
theorem rows1 {w : World} {b1 c : Nat} {A : Option Addr} {x : List Int} (hb1 : w.heap[b1]? = some (.cells #[.slice A x.length c] 43 (0, 0))) (hc : x.length ≤ c) (hC : Kd.C (Kd.int .u8) w A x.length x) :
    Kd.C (Kd.slice 5 (Kd.int .u8)) w (some ⟨b1, 0, none⟩) [x].length [x] := by
  refine ⟨rfl, by simp, fun _ => ⟨_, rfl, fun j p hp => ?_⟩⟩
  cases j with
  | succ j => simp at hp
  | zero =>
    simp only [List.getElem?_cons_zero, Option.some.injEq] at hp
    subst hp
    refine ⟨[.slice A x.length c], rfl, ⟨A, c, rfl, hc, hC⟩, fun i u hu => ?_⟩
    cases i with
    | succ i => simp at hu
    | zero =>
      simp only [List.getElem?_cons_zero, Option.some.injEq] at hu
      subst hu
      rw [add_plain, blk_cell hb1]
      simp
theorem C_block {w : World} {b : Nat} {x : List Int} (hb : w.heap[b]? = some (.cells (nums .u8 x).toArray 5 (0, 0))) (hl : x.length ≤ 9223372036854775807) : Kd.C (Kd.int .u8) w (some ⟨b, 0, none⟩) x.length x :=
  C_of_cells hl (fun j u hj => by rw [blk_cell hb j, List.getElem?_toArray]; exact hj)
theorem C_turn {w w' : World} {g : Nat} {A : Option Addr} {x : List Int} (h : Kd.C (Kd.int .u8) w A x.length x) (ht : Turn (fun k => k = g) w w') (hA : ∀ ad, A = some ad → ad.block ≠ g) : Kd.C (Kd.int .u8) w' A x.length x :=
  Kd.C_keep (enc := Value.int .u8) (h1 := fun _ => rfl) (0 : Int) h ht.keep (fun ad h _ => hA ad h)
theorem rows1_turn {w w' : World} {g b1 c : Nat} {A : Option Addr} {x : List Int} (hb1 : w.heap[b1]? = some (.cells #[.slice A x.length c] 43 (0, 0))) (hc : x.length ≤ c) (hC : Kd.C (Kd.int .u8) w A x.length x) (hg1 : b1 ≠ g) (hA : ∀ ad, A = some ad → ad.block ≠ g) (ht : Turn (fun k => k = g) w w') :
    Kd.C (Kd.slice 5 (Kd.int .u8)) w' (some ⟨b1, 0, none⟩) [x].length [x] :=
  rows1 ((ht.block b1 (blk_lt hb1) hg1).trans hb1) hc (C_turn hC ht hA)
theorem bytes_C {W : World} {s : ByteArray} (hs : s.size ≤ 9223372036854775807) : Kd.C (Kd.int .u8) (Lib.bytesWorld W 5 s) (some ⟨W.heap.size, 0, none⟩) s.size (bytesOf s) := by
  have := C_of_cells (w := Lib.bytesWorld W 5 s) (g := W.heap.size) (l := bytesOf s) (by rw [bytesOf_length]; exact hs) (fun j u hj => bytes_cell hj)
  rwa [bytesOf_length] at this
structure PageAt (w : World) (h : Hd) (g pb : Nat) (l : List Int) (W : World) : Prop where
  row : W.heap[g]? = some (.cells (nums .u8 l).toArray 5 (0, 0))
  box : W.heap[pb]? = some (.cells #[.slice (some ⟨g, 0, none⟩) 512 512] 108 (0, 0))
  hd : W.heap[w.heap.size]? = some (.cells (hdCells h).toArray 83 (0, 0))
  bel : Below w.heap.size w W
  len : l.length = 512
  byte : byteOk l
theorem PageAt.below {w : World} {h : Hd} {g pb : Nat} {l : List Int} {W W' : World} (k : PageAt w h g pb l W) (hb : Below W.heap.size W W') : PageAt w h g pb l W' :=
  ⟨blk_below k.row hb, blk_below k.box hb, blk_below k.hd hb, below_step k.bel hb, k.len, k.byte⟩
theorem PageAt.turn {w : World} {h : Hd} {g pb : Nat} {l l' : List Int} {W W' : World} (k : PageAt w h g pb l W) (ht : Turn (fun k => k = g) W W') (hrow : W'.heap[g]? = some (.cells (nums .u8 l').toArray 5 (0, 0))) (hl : l'.length = 512) (hby : byteOk l') (h1 : w.heap.size < g) (h2 : pb ≠ g) : PageAt w h g pb l' W' :=
  ⟨hrow, (ht.block _ (blk_lt k.box) h2).trans k.box, (ht.block _ (blk_lt k.hd) (by omega)).trans k.hd, k.bel.trans (ht.below (fun k hk => by omega) k.bel.size), hl, hby⟩
theorem hdWords_fit (h : Hd) (hok : (hdWords h).all (fun x => wordOk x.2.2.2 x.2.1) = true) : ∀ x ∈ hdWords h, 0 ≤ x.1 ∧ x.1.toNat + x.2.2.2.size < 512 := by
  intro x hx
  have h1 := List.all_eq_true.1 hok x hx
  unfold wordOk at h1
  simp only [Bool.and_eq_true, decide_eq_true_eq] at h1
  have h2 := h1.1
  clear h1
  unfold hdWords at hx
  split at hx
  · simp only [List.append_nil, List.mem_cons, List.not_mem_nil, or_false] at hx
    rcases hx with rfl | rfl <;> (simp only at h2 ⊢; omega)
  · simp only [List.cons_append, List.nil_append, List.mem_cons, List.not_mem_nil, or_false] at hx
    rcases hx with rfl | rfl | rfl <;> (simp only at h2 ⊢; omega)
theorem hdNumbers_fit (h : Hd) (hok : (hdNumbers h).all (fun x => (putN x.2.2.2 x.2.1).2) = true) : ∀ x ∈ hdNumbers h, 0 ≤ x.1 ∧ x.1.toNat + (putN x.2.2.2 x.2.1).1.length < 512 := by
  intro x hx
  have h1 := List.all_eq_true.1 hok x hx
  have h2 := putN_length h1
  clear h1
  unfold hdNumbers at hx
  split at hx
  · simp only [List.cons_append, List.nil_append, List.mem_cons, List.not_mem_nil, or_false] at hx
    rcases hx with rfl | rfl | rfl | rfl | rfl | rfl | rfl <;> (simp only at h2 ⊢; rw [h2.1]; decide)
  · simp only [List.append_nil, List.mem_cons, List.not_mem_nil, or_false] at hx
    rcases hx with rfl | rfl | rfl | rfl | rfl <;> (simp only at h2 ⊢; rw [h2.1]; decide)
theorem head_put1.at_ {w : World} {h : Hd} {g pb : Nat} {l : List Int} {W : World} (k : PageAt w h g pb l W) (at_ : Int) (h0 : 0 ≤ at_) (b1 c : Nat) (A : Option Addr) (x : List Int) (hb1 : W.heap[b1]? = some (.cells #[.slice A x.length c] 43 (0, 0))) (hc : x.length ≤ c) (hC : Kd.C (Kd.int .u8) W A x.length x) (hg1 : b1 ≠ g) (hA : ∀ ad, A = some ad → ad.block ≠ g) (hfit : at_.toNat + x.length < 512) (hx : byteOk x) (h1 : w.heap.size < g) (h2 : pb ≠ g) :
    Calls Tryz.prog 82 #[.agg #[.slice (some ⟨g, 0, none⟩) 512 512], .int .i64 at_, .slice (some ⟨b1, 0, none⟩) 1 1] W fun e w' => e = .returned (.tuple #[]) ∧ PageAt w h g pb (splice l at_.toNat x) w' ∧ Turn (fun k => k = g) W w' := by
  obtain ⟨n, rfl⟩ := Int.eq_ofNat_of_zero_le h0
  have hp : posAll n [x] = n + x.length := by simp [posAll]
  have := head_put.at_ g l n (some ⟨b1, 0, none⟩) 1 [x] W k.row (by rw [k.len]; decide) (by rw [hp, k.len]; exact hfit) (fun W' ht => rows1_turn hb1 hc hC hg1 hA ht)
  rw [k.len] at this
  refine this.mono ?_
  rintro e w' ⟨rfl, hr, ht⟩
  exact ⟨rfl, k.turn ht hr (by rw [Int.toNat_natCast, length_splice _ _ _ (by rw [k.len]; exact Nat.le_of_lt hfit)]; exact k.len) (byteOk_splice k.byte hx) h1 h2, ht⟩
theorem head_putS.at_ {w : World} {h : Hd} {g pb : Nat} {l : List Int} {W : World} (k : PageAt w h g pb l W) (at_ : Int) (h0 : 0 ≤ at_) (s : ByteArray) (hfit : at_.toNat + s.size < 512) (h1 : w.heap.size < g) (h2 : pb ≠ g) (hgW : g < W.heap.size) :
    Calls Tryz.prog 82 #[.agg #[.slice (some ⟨g, 0, none⟩) 512 512], .int .i64 at_, .slice (some ⟨(Lib.bytesWorld W 5 s).heap.size, 0, none⟩) 1 1] ((Lib.bytesWorld W 5 s).alloc (.cells #[.slice (some ⟨W.heap.size, 0, none⟩) s.size (grownCap W s.size 0 5)] 43)) fun e w' => e = .returned (.tuple #[]) ∧ PageAt w h g pb (splice l at_.toNat (bytesOf s)) w' ∧ Turn (fun k => k = g) ((Lib.bytesWorld W 5 s).alloc (.cells #[.slice (some ⟨W.heap.size, 0, none⟩) s.size (grownCap W s.size 0 5)] 43)) w' ∧ (∀ a v, W.cell? a = some v → a.block ≠ g → w'.cell? a = some v) := by
  have hbs := Lib.bytesWorld_size W 5 s
  have hB : Below W.heap.size W ((Lib.bytesWorld W 5 s).alloc (.cells #[.slice (some ⟨W.heap.size, 0, none⟩) s.size (grownCap W s.size 0 5)] 43)) := (bytes_below (Below.refl _ _) (Nat.le_refl _) 5 s).alloc (by omega) _
  have hbo := bytesOf_length s
  have hcc := bytes_C (W := W) (s := s) (by omega)
  refine (head_put1.at_ (k.below hB) at_ h0 (Lib.bytesWorld W 5 s).heap.size (grownCap W s.size 0 5) (some ⟨W.heap.size, 0, none⟩) (bytesOf s) ?_ (by rw [hbo]; exact grownCap_ge _ _ _ _) ?_ (by omega) ?_ (by rw [hbo]; exact hfit) (byteOk_bytesOf s) h1 h2).mono ?_
  · rw [hbo]
    exact heap_alloc_new _ _
  · rw [hbo]
    exact Kd.C_below hcc (below_alloc (Below.refl _ _) _)
  · intro ad h
    cases h
    simp only
    omega
  · rintro e w' ⟨he, hp, ht⟩
    refine ⟨he, hp, ht, fun a v hv hne => ?_⟩
    have h3 := pw_cell_below hB hv
    have h4 : a.block < ((Lib.bytesWorld W 5 s).alloc (.cells #[.slice (some ⟨W.heap.size, 0, none⟩) s.size (grownCap W s.size 0 5)] 43)).heap.size := World.block_lt_of_cell? _ a h3
    rw [← h3]
    unfold World.cell?
    rw [ht.block a.block h4 hne]
theorem head_putB.at_ {w : World} {h : Hd} {g pb : Nat} {l : List Int} {W : World} (k : PageAt w h g pb l W) (at_ : Int) (h0 : 0 ≤ at_) (x : List Int) (hfit : at_.toNat + x.length < 512) (hx : byteOk x) (h1 : w.heap.size < g) (h2 : pb ≠ g) :
    Calls Tryz.prog 82 #[.agg #[.slice (some ⟨g, 0, none⟩) 512 512], .int .i64 at_, .slice (some ⟨W.heap.size + 1, 0, none⟩) 1 1] ((W.alloc (.cells (nums .u8 x).toArray 5)).alloc (.cells #[.slice (some ⟨W.heap.size, 0, none⟩) x.length x.length] 43)) fun e w' => e = .returned (.tuple #[]) ∧ PageAt w h g pb (splice l at_.toNat x) w' := by
  have hgW := blk_lt k.row
  have hB : Below W.heap.size W ((W.alloc (.cells (nums .u8 x).toArray 5)).alloc (.cells #[.slice (some ⟨W.heap.size, 0, none⟩) x.length x.length] 43)) := below_alloc (below_alloc (Below.refl _ _) _) _
  refine (head_put1.at_ (k.below hB) at_ h0 (W.heap.size + 1) x.length (some ⟨W.heap.size, 0, none⟩) x ?_ (Nat.le_refl _) ?_ (by omega) ?_ hfit hx h1 h2).mono ?_
  · have := heap_alloc_new (W.alloc (.cells (nums .u8 x).toArray 5)) (.cells #[.slice (some ⟨W.heap.size, 0, none⟩) x.length x.length] 43)
    rwa [World.size_alloc] at this
  · exact C_block (blk_alloc (heap_alloc_new W _) _) (by omega)
  · intro ad h
    cases h
    simp only
    omega
  · rintro e w' ⟨he, hp, _⟩
    exact ⟨he, hp⟩
theorem C_blockM {w : World} {b : Nat} {x : List Int} {m : Nat × Nat} (hb : w.heap[b]? = some (.cells (nums .u8 x).toArray 5 m)) (hl : x.length ≤ 9223372036854775807) : Kd.C (Kd.int .u8) w (some ⟨b, 0, none⟩) x.length x :=
  C_of_cells hl (fun j u hj => by rw [cell_of_row w b j _ _ m hb, List.getElem?_toArray]; exact hj)
theorem head_put3.at_ {w : World} {h : Hd} {g pb : Nat} {l : List Int} {W : World} (k : PageAt w h g pb l W) (h1 : w.heap.size < g) (h2 : pb ≠ g) :
    Calls Tryz.prog 82 #[.agg #[.slice (some ⟨g, 0, none⟩) 512 512], .int .i64 257, .slice (some ⟨W.heap.size + 1 + 1 + 1, 0, none⟩) 3 3] ((((W.alloc (.cells #[.int .u8 117, .int .u8 115, .int .u8 116, .int .u8 97, .int .u8 114] 5 (5, 6))).alloc (.cells #[.int .u8 0] 5)).alloc (.cells #[.int .u8 48, .int .u8 48] 5 (2, 3))).alloc (.cells #[.slice (some ⟨W.heap.size, 0, none⟩) 5 5, .slice (some ⟨W.heap.size + 1, 0, none⟩) 1 1, .slice (some ⟨W.heap.size + 1 + 1, 0, none⟩) 2 2] 43)) fun e w' => e = .returned (.tuple #[]) ∧ PageAt w h g pb (layAll l 257 [[117, 115, 116, 97, 114], [0], [48, 48]]) w' := by
  have hgW := blk_lt k.row
  obtain ⟨W4, hW4⟩ : ∃ W4, ((((W.alloc (.cells #[.int .u8 117, .int .u8 115, .int .u8 116, .int .u8 97, .int .u8 114] 5 (5, 6))).alloc (.cells #[.int .u8 0] 5)).alloc (.cells #[.int .u8 48, .int .u8 48] 5 (2, 3))).alloc (.cells #[.slice (some ⟨W.heap.size, 0, none⟩) 5 5, .slice (some ⟨W.heap.size + 1, 0, none⟩) 1 1, .slice (some ⟨W.heap.size + 1 + 1, 0, none⟩) 2 2] 43)) = W4 := ⟨_, rfl⟩
  have hB : Below W.heap.size W W4 := by rw [← hW4]; exact below_alloc (below_alloc (below_alloc (below_alloc (Below.refl _ _) _) _) _) _
  have b0 : W4.heap[W.heap.size]? = some (.cells (nums .u8 [117, 115, 116, 97, 114]).toArray 5 (5, 6)) := by rw [← hW4]; exact blk_alloc (blk_alloc (blk_alloc (heap_alloc_new W _) _) _) _
  have b1 : W4.heap[W.heap.size + 1]? = some (.cells (nums .u8 [0]).toArray 5 (0, 0)) := by
    rw [← hW4]
    have := heap_alloc_new (W.alloc (.cells #[.int .u8 117, .int .u8 115, .int .u8 116, .int .u8 97, .int .u8 114] 5 (5, 6))) (.cells #[.int .u8 0] 5)
    rw [World.size_alloc] at this
    exact blk_alloc (blk_alloc this _) _
  have b2 : W4.heap[W.heap.size + 1 + 1]? = some (.cells (nums .u8 [48, 48]).toArray 5 (2, 3)) := by
    rw [← hW4]
    have := heap_alloc_new ((W.alloc (.cells #[.int .u8 117, .int .u8 115, .int .u8 116, .int .u8 97, .int .u8 114] 5 (5, 6))).alloc (.cells #[.int .u8 0] 5)) (.cells #[.int .u8 48, .int .u8 48] 5 (2, 3))
    rw [World.size_alloc, World.size_alloc] at this
    exact blk_alloc this _
  have b3 : W4.heap[W.heap.size + 1 + 1 + 1]? = some (.cells #[.slice (some ⟨W.heap.size, 0, none⟩) 5 5, .slice (some ⟨W.heap.size + 1, 0, none⟩) 1 1, .slice (some ⟨W.heap.size + 1 + 1, 0, none⟩) 2 2] 43 (0, 0)) := by
    rw [← hW4]
    have := heap_alloc_new (((W.alloc (.cells #[.int .u8 117, .int .u8 115, .int .u8 116, .int .u8 97, .int .u8 114] 5 (5, 6))).alloc (.cells #[.int .u8 0] 5)).alloc (.cells #[.int .u8 48, .int .u8 48] 5 (2, 3))) (.cells #[.slice (some ⟨W.heap.size, 0, none⟩) 5 5, .slice (some ⟨W.heap.size + 1, 0, none⟩) 1 1, .slice (some ⟨W.heap.size + 1 + 1, 0, none⟩) 2 2] 43)
    rwa [World.size_alloc, World.size_alloc, World.size_alloc] at this
  rw [hW4]
  clear hW4
  have k4 := k.below hB
  have hrows : ∀ W', Turn (fun k => k = g) W4 W' → Kd.C (Kd.slice 5 (Kd.int .u8)) W' (some ⟨W.heap.size + 1 + 1 + 1, 0, none⟩) ([[117, 115, 116, 97, 114], [0], [48, 48]] : List (List Int)).length [[117, 115, 116, 97, 114], [0], [48, 48]] := by
    intro W' ht
    have c0 := (ht.block _ (blk_lt b0) (by omega)).trans b0
    have c1 := (ht.block _ (blk_lt b1) (by omega)).trans b1
    have c2 := (ht.block _ (blk_lt b2) (by omega)).trans b2
    have c3 := (ht.block _ (blk_lt b3) (by omega)).trans b3
    refine ⟨rfl, by decide, fun _ => ⟨_, rfl, fun j p hp => ?_⟩⟩
    match j, hp with
    | 0, hp =>
      simp only [List.getElem?_cons_zero, Option.some.injEq] at hp
      subst hp
      refine ⟨[.slice (some ⟨W.heap.size, 0, none⟩) 5 5], rfl, ⟨_, _, rfl, Nat.le_refl _, C_blockM c0 (by decide)⟩, fun i u hu => ?_⟩
      cases i with
      | succ i => simp at hu
      | zero => rw [add_plain, blk_cell c3]; exact hu
    | 1, hp =>
      simp only [List.getElem?_cons_succ, List.getElem?_cons_zero, Option.some.injEq] at hp
      subst hp
      refine ⟨[.slice (some ⟨W.heap.size + 1, 0, none⟩) 1 1], rfl, ⟨_, _, rfl, Nat.le_refl _, C_blockM c1 (by decide)⟩, fun i u hu => ?_⟩
      cases i with
      | succ i => simp at hu
      | zero => rw [add_plain, blk_cell c3]; exact hu
    | 2, hp =>
      simp only [List.getElem?_cons_succ, List.getElem?_cons_zero, Option.some.injEq] at hp
      subst hp
      refine ⟨[.slice (some ⟨W.heap.size + 1 + 1, 0, none⟩) 2 2], rfl, ⟨_, _, rfl, Nat.le_refl _, C_blockM c2 (by decide)⟩, fun i u hu => ?_⟩
      cases i with
      | succ i => simp at hu
      | zero => rw [add_plain, blk_cell c3]; exact hu
    | j + 3, hp => simp at hp
  have hp : posAll 257 [[117, 115, 116, 97, 114], [0], [48, 48]] = 265 := by simp [posAll]
  have := head_put.at_ g l 257 (some ⟨W.heap.size + 1 + 1 + 1, 0, none⟩) 3 [[117, 115, 116, 97, 114], [0], [48, 48]] W4 k4.row (by rw [k4.len]; decide) (by rw [hp, k4.len]; decide) hrows
  rw [k4.len] at this
  refine this.mono ?_
  rintro e w' ⟨rfl, hr, ht⟩
  refine ⟨rfl, k4.turn ht hr (by rw [layAll_length _ _ _ (by rw [hp, k4.len]; decide)]; exact k4.len) ?_ h1 h2⟩
  exact byteOk_splice (byteOk_splice (byteOk_splice k4.byte (by intro c hc; simp only [List.mem_cons, List.not_mem_nil, or_false] at hc; omega)) (by intro c hc; simp only [List.mem_cons, List.not_mem_nil, or_false] at hc; omega)) (by intro c hc; simp only [List.mem_cons, List.not_mem_nil, or_false] at hc; omega)
theorem R_turn {α : Type} {d : Kd α} {e base g : Nat} {ok : Nat → Prop} {w w' : World} {v : Value} {xs : List α} (h : d.R e w base ok v xs) (ht : Turn (fun k => k = g) w w') (hg : g < base) : d.R e w' base ok v xs :=
  Kd.R_mono (Kd.R_move (Kd.R_bound h) (fun k hk => ht.block k hk.2.2.1 (by have := hk.2.1; omega))) (fun _ hk => hk.1)
theorem signL_byte (n : Int) : byteOk (signL n) := by
  intro c hc
  unfold signL at hc
  simp only [List.mem_append, List.mem_cons, List.not_mem_nil, or_false] at hc
  rcases hc with hc | rfl | rfl
  · exact octL_range _ _ c hc
  · decide
  · decide
theorem hdOk_parts {h : Hd} (hok : hdOk h = true) : (hdWords h).all (fun x => wordOk x.2.2.2 x.2.1) = true ∧ (hdNumbers h).all (fun x => (putN x.2.2.2 x.2.1).2) = true := by
  unfold hdOk at hok
  simp only [Bool.and_eq_true] at hok
  exact hok.2
set_option maxHeartbeats 1600000 in
set_option maxRecDepth 100000 in
theorem head_Put.ok (h : Hd) (w : World) (hh : hdIn h) (hok : hdOk h = true) :
    Calls Tryz.prog 53 #[.agg (hdCells h).toArray] w fun e w' => ∃ v, e = .returned (.tuple #[v, .bool true]) ∧ Kd.R (Kd.int .u8) 5 w' w.heap.size (fun _ => True) v (hdBlk h) ∧ Below w.heap.size w w' := by
  obtain ⟨hW1, hN1⟩ := hdOk_parts hok
  have hW := hdWords_cell h
  have hN := hdNumbers_cell h hh
  have hWf := hdWords_fit h hW1
  have hNf := hdNumbers_fit h hN1
  have hmay : ∀ W, Calls Tryz.prog 80 #[.agg (hdCells h).toArray] W fun e w' => e = .returned (.bool true) ∧ Below W.heap.size W w' := fun W => head_May.calls h.f0 h.f1 h.f2 h.f3 h.f4 h.f5 h.f6 h.f7 h.f8 h.f9 h.f10 true W (by unfold head_May.f; rw [if_pos hh, hok])
  have hwl := words_hd w.heap.size h
  have hnl := numbers_hd w.heap.size h
  have hcw := fun (W : World) (hb : W.heap[w.heap.size]? = some (.cells (hdCells h).toArray 83 (0, 0))) => head_words.at_ w.heap.size (hdCells h).toArray h.f8 rfl W hb
  have hcn := fun (W : World) (hb : W.heap[w.heap.size]? = some (.cells (hdCells h).toArray 83 (0, 0))) => head_numbers.at_ w.heap.size (hdCells h).toArray h.f8 rfl W hb
  rw [hwl] at hcw
  rw [hnl] at hcn
  have hblk : hdBlk h = splice (layAll (splice ((hdNumbers h).foldl layNum ((hdWords h).foldl layWord (List.replicate 512 0))) 156 [h.f8]) 257 [[117, 115, 116, 97, 114], [0], [48, 48]]) 148 (signL (sumL (layAll (splice ((hdNumbers h).foldl layNum ((hdWords h).foldl layWord (List.replicate 512 0))) 156 [h.f8]) 257 [[117, 115, 116, 97, 114], [0], [48, 48]]) 0)) := rfl
  rw [hblk]
  have hty : 0 ≤ h.f8 ∧ h.f8 ≤ 255 := hh.1
  clear hblk hwl hnl hh hok hW1 hN1
  have hwm : (hdWords h).length ≤ 9223372036854775807 := by unfold hdWords; split <;> simp
  have hnm : (hdNumbers h).length ≤ 9223372036854775807 := by unfold hdNumbers; split <;> simp
  generalize hdWords h = ws at *
  generalize hdNumbers h = ns at *
  have hcw2 : ∀ (W : World) (hb : W.heap[w.heap.size]? = some (.cells (hdCells h).toArray 83 (0, 0))), Calls Tryz.prog 81 #[.pointer (some ⟨w.heap.size, 0, none⟩)] W fun e w' => ∃ A c, e = .returned (.slice A ws.length c) ∧ Kd.R kSpot 114 w' W.heap.size (fun _ => True) (.slice A ws.length c) (ws.map fun x => (x.1, x.2.1, ⟨w.heap.size, x.2.2.1, none⟩)) ∧ Below W.heap.size W w' := fun W hb => (hcw W hb).mono (by
    rintro e w' ⟨v, rfl, hR, hB⟩
    obtain ⟨A, c, hv⟩ := Kd.R_slice hR
    rw [List.length_map] at hv
    subst hv
    exact ⟨A, c, rfl, hR, hB⟩)
  have hcn2 : ∀ (W : World) (hb : W.heap[w.heap.size]? = some (.cells (hdCells h).toArray 83 (0, 0))), Calls Tryz.prog 83 #[.pointer (some ⟨w.heap.size, 0, none⟩)] W fun e w' => ∃ A c, e = .returned (.slice A ns.length c) ∧ Kd.R kSpot 120 w' W.heap.size (fun _ => True) (.slice A ns.length c) (ns.map fun x => (x.1, x.2.1, ⟨w.heap.size, x.2.2.1, none⟩)) ∧ Below W.heap.size W w' := fun W hb => (hcn W hb).mono (by
    rintro e w' ⟨v, rfl, hR, hB⟩
    obtain ⟨A, c, hv⟩ := Kd.R_slice hR
    rw [List.length_map] at hv
    subst hv
    exact ⟨A, c, rfl, hR, hB⟩)
  have HCW := Aside0.mk hcw2
  have HCN := Aside0.mk hcn2
  have HW := Aside0.mk hW
  have HN := Aside0.mk hN
  have HWF := Aside0.mk hWf
  have HNF := Aside0.mk hNf
  have HMAY := Aside0.mk hmay
  have hmk : ∀ W : World, (Instr.makeSlice 43 (.int .i64 512) (.int .i64 512)).run Tryz.prog W = .ok (.slice (some ⟨W.heap.size, 0, none⟩) 512 512) (W.alloc (.cells (nums .u8 (List.replicate 512 0)).toArray 5)) := by
    intro W
    obtain ⟨i0, hi, hz0, hz1, hz2⟩ := info_parts info5
    have := run_make (P := Tryz.prog) W 43 5 i0 (.int .u8 0) Tryz.underlying43 hi hz0 .i64 .i64 512 512 (by decide) (by decide) (by rw [hz2]; decide) (by decide)
    rw [this, hz1]
    show Result.ok _ (W.alloc (.cells (madeCells #[Value.int .u8 0] 512) _)) = _
    rw [made_nums]
    rfl
  obtain ⟨z0, hz0⟩ : ∃ z0, List.replicate 512 (0 : Int) = z0 := ⟨_, rfl⟩
  have hzl : z0.length = 512 := by rw [← hz0, List.length_replicate]
  have hzb : byteOk z0 := by rw [← hz0]; intro c hc; obtain rfl := List.eq_of_mem_replicate hc; decide
  rw [hz0] at hmk ⊢
  have HZL := Aside0.mk hzl
  have HZB := Aside0.mk hzb
  have HBX := Aside0.mk (heap_alloc_new w (.cells (hdCells h).toArray 83))
  have HB0 := Aside0.mk (below_alloc (Below.refl w.heap.size w) (.cells (hdCells h).toArray 83))
  obtain ⟨f0, f1, f2, f3, f4, f5, f6, f7, f8, f9, f10⟩ := h
  clear hcw hcn hcw2 hcn2 hW hN hWf hNf hmay hz0 hzl hzb
  simp only [hdCells] at HMAY HBX HB0 ⊢
  go_enter Tryz.func53, Tryz.ntmps53
  go_wp2_with (first | (go_at_call 80; refine (HMAY.out _).mono ?_; rintro e w1 ⟨rfl, hb1⟩; have PG := Aside0.mk (PageAt.mk (w := w) (h := ⟨f0, f1, f2, f3, f4, f5, f6, f7, f8, f9, f10⟩) (g := w1.heap.size) (pb := w1.heap.size + 1) (l := z0) (W := ((w1.alloc (.cells (nums .u8 z0).toArray 5)).alloc (.cells #[.slice (some ⟨w1.heap.size, 0, none⟩) 512 512] 108))) (blk_alloc (heap_alloc_new w1 _) _) (by have := heap_alloc_new (w1.alloc (.cells (nums .u8 z0).toArray 5)) (.cells #[.slice (some ⟨w1.heap.size, 0, none⟩) 512 512] 108); rwa [World.size_alloc] at this) (blk_alloc (blk_alloc (blk_below HBX.out hb1) _) _) (by have h1 := below_step HB0.out hb1; exact (h1.alloc h1.size _).alloc (by have := h1.size; simp; omega) _) HZL.out HZB.out); have hgs : w.heap.size + 1 ≤ w1.heap.size := (by have := hb1.size; simpa using this); clear hb1 HBX HB0) | (go_at_call 81; refine (HCW.out _ PG.out.hd).mono ?_; rintro e w2 ⟨A1, c1, rfl, hR, hb2⟩; have HR1 := Aside0.mk (Kd.R_lower (base' := w1.heap.size + 2) hR (by simp)); have PG2 := Aside0.mk (PG.out.below hb2); clear PG hR hb2; have PG := PG2; clear PG2))
  obtain ⟨g, hg⟩ : ∃ g, w1.heap.size = g := ⟨_, rfl⟩
  rw [hg] at hgs HR1 PG ⊢
  clear hg
  generalize hHD : (⟨f0, f1, f2, f3, f4, f5, f6, f7, f8, f9, f10⟩ : Hd) = hd at *
  have hc8 : (hdCells hd)[8]? = some (.int .u8 f8) := by rw [← hHD]; rfl
  have HC8 := Aside0.mk hc8
  clear hHD hc8 hmk
  have kc := fun (w : World) (C : Array Value) (n c : Nat) => Lib.run_convert_bytes_const (P := Tryz.prog) w 43 5 C n c Tryz.underlying43 Tryz.underlying5
  go_loopw [19] (fun v19 wr => ∃ k : Nat, v19 = .int .i64 k ∧ k ≤ ws.length ∧ Aside0 (PageAt w hd g (g + 1) ((ws.take k).foldl layWord z0) wr) ∧ Aside0 (Kd.R kSpot 114 wr (g + 2) (fun _ => True) (.slice A1 ws.length c1) (ws.map fun x => (x.1, x.2.1, ⟨w.heap.size, x.2.2.1, none⟩)))) (fun v19 _ => ws.length - (intOf v19).toNat)
  case atStart => exact ⟨0, rfl, Nat.zero_le _, PG, HR1⟩
  case round =>
    obtain ⟨k, rfl, hk, PK, HR⟩ := hrel
    clear PG HR1
    by_cases hlt : k < ws.length
    · obtain ⟨g1, c, hv, hgb, k0, k1, k2⟩ := kSpot_at HR.out (k := k) (by rw [List.length_map]; exact hlt)
      rw [List.length_map] at hv
      injection hv with e1 e2 e3
      subst e1 e3
      clear e2
      simp only [List.getElem_map] at k0 k1 k2
      obtain ⟨hcell, _, _, _, _⟩ := HW.out ws[k] (List.getElem_mem hlt)
      obtain ⟨hfit0, hfit⟩ := HWF.out ws[k] (List.getElem_mem hlt)
      have htk : (ws.take (k + 1)).foldl layWord z0 = layWord ((ws.take k).foldl layWord z0) ws[k] := by rw [List.take_succ_eq_append_getElem hlt, List.foldl_append]; rfl
      obtain ⟨cur, hcur⟩ : ∃ cur, (ws.take k).foldl layWord z0 = cur := ⟨_, rfl⟩
      rw [hcur] at PK htk
      generalize ws[k] = x at *
      obtain ⟨xa, xw, xj, xs⟩ := x
      simp only at k0 k1 k2 hcell hfit0 hfit
      have HTK := Aside0.mk htk
      have hlt2 : (k : Int) < (ws.length : Int) := by omega
      have hk0 : (0 : Int) ≤ (k : Int) := by omega
      have hgw : g + 1 < wr.heap.size := blk_lt PK.out.box
      have hwg : w.heap.size < g := by omega
      clear htk hcur
      have PN := Aside0.mk (PK.out.below (below_alloc (Below.refl _ _) (.cells #[.int .i64 xa, .int .i64 xw, .pointer (some ⟨w.heap.size, xj, none⟩)] 114)))
      have RN := Aside0.mk (Kd.R_alloc HR.out (.cells #[.int .i64 xa, .int .i64 xw, .pointer (some ⟨w.heap.size, xj, none⟩)] 114))
      have y0 := blk_cell (heap_alloc_new wr (.cells #[.int .i64 xa, .int .i64 xw, .pointer (some ⟨w.heap.size, xj, none⟩)] 114)) 0
      have y2 := blk_cell (heap_alloc_new wr (.cells #[.int .i64 xa, .int .i64 xw, .pointer (some ⟨w.heap.size, xj, none⟩)] 114)) 2
      simp only [List.getElem?_toArray, List.getElem?_cons_succ, List.getElem?_cons_zero] at y0 y2
      have y3 := (blk_cell PN.out.hd xj).trans (by simpa using hcell)
      have y4 := (blk_cell PN.out.box 0)
      simp only [List.getElem?_toArray, List.getElem?_cons_succ, List.getElem?_cons_zero] at y4
      have hsz : (wr.alloc (.cells #[.int .i64 xa, .int .i64 xw, .pointer (some ⟨w.heap.size, xj, none⟩)] 114)).heap.size = wr.heap.size + 1 := by simp
      clear PK HR
      go_wp2_with (fail)
      obtain ⟨W2, hW2⟩ : ∃ W2, wr.alloc (.cells #[.int .i64 xa, .int .i64 xw, .pointer (some ⟨w.heap.size, xj, none⟩)] 114) = W2 := ⟨_, rfl⟩
      rw [hW2] at PN RN y0 y2 y3 y4 hsz ⊢
      clear hW2 k0 k1 k2
      have HSZ := Aside0.mk hsz
      have kb := fun W => print_bytes (P := Tryz.prog) 9 43 5 Tryz.underlying9 Tryz.underlying43 Tryz.underlying5 xs W
      have q0 := (Lib.bytesWorld_old W2.drew 5 xs ⟨wr.heap.size, 0, none⟩ (by show wr.heap.size < W2.heap.size; omega)).trans y0
      have q2 := (Lib.bytesWorld_old W2.drew 5 xs ⟨wr.heap.size, 2, none⟩ (by show wr.heap.size < W2.heap.size; omega)).trans y2
      have q3 := (Lib.bytesWorld_old W2.drew 5 xs ⟨w.heap.size, xj, none⟩ (by show w.heap.size < W2.heap.size; omega)).trans y3
      have q4 := (Lib.bytesWorld_old W2.drew 5 xs ⟨g + 1, 0, none⟩ (by show g + 1 < W2.heap.size; omega)).trans y4
      clear hsz
      have hput := head_putS.at_ (PN.out.below (below_drew (Below.refl _ _))) xa hfit0 xs hfit (by omega) (by omega) (by have := HSZ.out; show g < W2.heap.size; omega)
      refine wp_region_held_drew (S := fun w' => w'.cell? ⟨wr.heap.size, 0, none⟩ = some (.int .i64 xa) ∧ w'.cell? ⟨wr.heap.size, 2, none⟩ = some (.pointer (some ⟨w.heap.size, xj, none⟩)) ∧ w'.cell? ⟨w.heap.size, xj, none⟩ = some (.string xs) ∧ w'.cell? ⟨g + 1, 0, none⟩ = some (.slice (some ⟨g, 0, none⟩) 512 512)) (by kernel_rfl) ⟨y0, y2, y3, y4⟩ (fun hHeld => ?_)
      refine wpAnyH_take (i := 0) (v := ?_) rfl (by kernel_rfl) (by kernel_rfl) (by kernel_rfl) (fun _ _ _ h => h) (Or.inl ⟨by rfl, ?_⟩) (by assumption) ?_
      rotate_left
      · intro w hSw
        try dsimp only at hSw
        go_simp
        try with_reducible rfl
      try aput2
      refine wpAnyH_take (i := 1) (v := ?_) rfl (by kernel_rfl) (by kernel_rfl) (by kernel_rfl) (fun _ _ _ h => h) (Or.inl ⟨by rfl, ?_⟩) (by assumption) ?_
      rotate_left
      · intro w hSw
        try dsimp only at hSw
        go_simp
        try with_reducible rfl
      try aput2
      refine wpAnyH_take (i := 2) (v := ?_) rfl (by kernel_rfl) (by kernel_rfl) (by kernel_rfl) (fun _ _ _ h => h) (Or.inl ⟨by rfl, ?_⟩) (by assumption) ?_
      rotate_left
      · intro w hSw
        try dsimp only at hSw
        go_simp
        try with_reducible rfl
      try aput2
      refine wpAnyH_take (i := 3) (v := ?_) rfl (by kernel_rfl) (by kernel_rfl) (by kernel_rfl) (fun _ _ _ h => h) (Or.inl ⟨by rfl, ?_⟩) (by assumption) ?_
      rotate_left
      · intro w hSw
        try dsimp only at hSw
        go_simp
        try with_reducible rfl
      try aput2
      refine wpAnyH_take (i := 4) (v := ?_) rfl (by kernel_rfl) (by kernel_rfl) (by kernel_rfl) (fun _ _ _ h => h) (Or.inl ⟨by rfl, ?_⟩) (by assumption) ?_
      rotate_left
      · intro w hSw
        try dsimp only at hSw
        go_simp
        try with_reducible rfl
      try aput2
      refine wpAnyH_take (i := 5) (v := ?_) rfl (by kernel_rfl) (by kernel_rfl) (by kernel_rfl) (fun _ _ _ h => h) (Or.inl ⟨by rfl, ?_⟩) (by assumption) ?_
      rotate_left
      · intro w hSw
        try dsimp only at hSw
        go_simp
        try with_reducible rfl
      try aput2
      refine wpAnyH_take (i := 6) (v := ?_) rfl (by kernel_rfl) (by kernel_rfl) (by kernel_rfl) (fun _ _ _ h => h) (Or.inl ⟨by rfl, ?_⟩) (by assumption) ?_
      rotate_left
      · intro w hSw
        try dsimp only at hSw
        go_simp
        try with_reducible rfl
      try aput2
      refine wpAnyH_take (i := 7) (v := ?_) rfl (by kernel_rfl) (by kernel_rfl) (by kernel_rfl) (fun _ _ _ h => h) (Or.inl ⟨by rfl, ?_⟩) (by assumption) ?_
      rotate_left
      · intro w hSw
        try dsimp only at hSw
        go_simp
        try with_reducible rfl
      try aput2
      refine wpAnyH_ready (rs := [8]) (by kernel_rfl) (by simp) ?_
      refine AllReadyH.cons rfl (fun K hK => ?_) AllReadyH.nil
      go_simp
      refine hK.out _ _ ⟨q0, q2, q3, q4⟩ (fun hHeld => ?_)
      clear hK K
      try aput2
      refine wpAnyH_ready (rs := [9]) (by kernel_rfl) (by simp) ?_
      refine AllReadyH.cons rfl (fun K hK => ?_) AllReadyH.nil
      go_simp
      refine hK.out _ _ ⟨pw_cell_below (below_alloc (Below.refl _ _) _) q0, pw_cell_below (below_alloc (Below.refl _ _) _) q2, pw_cell_below (below_alloc (Below.refl _ _) _) q3, pw_cell_below (below_alloc (Below.refl _ _) _) q4⟩ (fun hHeld => ?_)
      clear hK K
      try aput2
      refine wpAnyH_ready (rs := [10]) (by kernel_rfl) (by simp) ?_
      refine AllReadyH.cons rfl (fun K hK => ?_) AllReadyH.nil
      go_simp
      go_at_call 82
      refine hput.mono ?_
      rintro e w3 ⟨rfl, hPG, hT, hZ⟩
      have z0 := hZ ⟨wr.heap.size, 0, none⟩ _ y0 (by simp only; omega)
      have z2 := hZ ⟨wr.heap.size, 2, none⟩ _ y2 (by simp only; omega)
      have z3 := hZ ⟨w.heap.size, xj, none⟩ _ y3 (by simp only; omega)
      have z4 := hZ ⟨g + 1, 0, none⟩ _ y4 (by simp only; omega)
      refine hK.out _ _ ⟨z0, z2, z3, z4⟩ (fun hHeld => ?_)
      clear hK K
      refine wpAnyH_done (by kernel_rfl) ?_ _
      try aput2
      have hBW : Below W2.heap.size W2 ((Lib.bytesWorld W2.drew 5 xs).alloc (.cells #[.slice (some ⟨W2.heap.size, 0, none⟩) xs.size (grownCap W2.drew xs.size 0 5)] 43)) := (bytes_below (below_drew (Below.refl _ _)) (Nat.le_refl _) 5 xs).alloc (by rw [Lib.bytesWorld_size]; exact Nat.le_succ _) _
      have PF := Aside0.mk hPG
      have RF := Aside0.mk (R_turn (Kd.R_below RN.out hBW) hT (by omega))
      clear hPG hT hZ z0 z2 z3 z4 y0 y2 y3 y4 hput q0 q2 q3 q4 hBW PN RN
      go_wp2_with (fail)
      go_roundw
      case rel => exact ⟨k + 1, by go_num, by omega, ⟨by rw [HTK.out]; repeat (first | exact PF.out | refine PageAt.below ?_ (below_drew (Below.refl _ _)))⟩, ⟨by repeat (first | (with_reducible first | exact RF.out | apply Kd.R_drewN | apply Kd.R_drew) | exact RF.out)⟩⟩
      case measure => simp [intOf]; omega
    · obtain rfl : k = ws.length := by omega
      have PK2 := Aside0.mk (by have := PK.out; rwa [List.take_length] at this)
      clear PK HR
      obtain ⟨z1, hz1⟩ : ∃ z1, ws.foldl layWord z0 = z1 := ⟨_, rfl⟩
      rw [hz1] at PK2
      have HZ1 := Aside0.mk hz1
      have hgw : g + 1 < wr.heap.size := blk_lt PK2.out.box
      clear hz1
      go_wp2_with (first | (go_at_call 83; refine (HCN.out _ PK2.out.hd).mono ?_; rintro e w3 ⟨A2, c2, rfl, hR2, hb2⟩; have HR2 := Aside0.mk (Kd.R_lower (base' := g + 2) hR2 (by omega)); have PG := Aside0.mk (PK2.out.below hb2); clear hR2 hb2 PK2))
      obtain ⟨wo, hwo⟩ : ∃ wo : World, wo = wr := ⟨_, rfl⟩
      go_loopw [37] (fun v37 wr => ∃ k : Nat, v37 = .int .i64 k ∧ k ≤ ns.length ∧ Aside0 (PageAt w hd g (g + 1) ((ns.take k).foldl layNum z1) wr) ∧ Aside0 (Kd.R kSpot 120 wr (g + 2) (fun _ => True) (.slice A2 ns.length c2) (ns.map fun x => (x.1, x.2.1, ⟨w.heap.size, x.2.2.1, none⟩)))) (fun v37 _ => ns.length - (intOf v37).toNat)
      case atStart => exact ⟨0, rfl, Nat.zero_le _, PG, HR2⟩
      case round =>
        clear hwo
        obtain ⟨k, rfl, hk, PK, HR⟩ := hrel
        clear PG HR2
        by_cases hlt : k < ns.length
        · obtain ⟨g1, c, hv, hgb, k0, k1, k2⟩ := kSpot_at HR.out (k := k) (by rw [List.length_map]; exact hlt)
          rw [List.length_map] at hv
          injection hv with e1 e2 e3
          subst e1 e3
          clear e2
          simp only [List.getElem_map] at k0 k1 k2
          obtain ⟨hcell, _, _, _, _, hx5⟩ := HN.out ns[k] (List.getElem_mem hlt)
          obtain ⟨hfit0, hfit⟩ := HNF.out ns[k] (List.getElem_mem hlt)
          have htk : (ns.take (k + 1)).foldl layNum z1 = layNum ((ns.take k).foldl layNum z1) ns[k] := by rw [List.take_succ_eq_append_getElem hlt, List.foldl_append]; rfl
          obtain ⟨cur, hcur⟩ : ∃ cur, (ns.take k).foldl layNum z1 = cur := ⟨_, rfl⟩
          rw [hcur] at PK htk
          generalize ns[k] = x at *
          obtain ⟨xa, xw, xj, xn⟩ := x
          simp only at k0 k1 k2 hcell hfit0 hfit hx5
          obtain ⟨pl, pb, hput⟩ : ∃ l b, putN xn xw = (l, b) := ⟨_, _, rfl⟩
          have hby := byteOk_putN xn xw
          replace htk : (ns.take (k + 1)).foldl layNum z1 = splice cur xa.toNat pl := by
            rw [htk]
            unfold layNum
            simp only [hput]
          simp only [hput] at hfit hby
          have HPUT := Aside0.mk hput
          have HTK := Aside0.mk htk
          have HBY := Aside0.mk hby
          have hlt2 : (k : Int) < (ns.length : Int) := by omega
          have hk0 : (0 : Int) ≤ (k : Int) := by omega
          have hgw : g + 1 < wr.heap.size := blk_lt PK.out.box
          have hwg : w.heap.size < g := by omega
          clear htk hcur hput hby
          have PN := Aside0.mk (PK.out.below (below_alloc (Below.refl _ _) (.cells #[.int .i64 xa, .int .i64 xw, .pointer (some ⟨w.heap.size, xj, none⟩)] 120)))
          have RN := Aside0.mk (Kd.R_alloc HR.out (.cells #[.int .i64 xa, .int .i64 xw, .pointer (some ⟨w.heap.size, xj, none⟩)] 120))
          have y0 := blk_cell (heap_alloc_new wr (.cells #[.int .i64 xa, .int .i64 xw, .pointer (some ⟨w.heap.size, xj, none⟩)] 120)) 0
          have y1 := blk_cell (heap_alloc_new wr (.cells #[.int .i64 xa, .int .i64 xw, .pointer (some ⟨w.heap.size, xj, none⟩)] 120)) 1
          have y2 := blk_cell (heap_alloc_new wr (.cells #[.int .i64 xa, .int .i64 xw, .pointer (some ⟨w.heap.size, xj, none⟩)] 120)) 2
          simp only [List.getElem?_toArray, List.getElem?_cons_succ, List.getElem?_cons_zero] at y0 y1 y2
          have y3 := (blk_cell PN.out.hd xj).trans (by simpa using hcell)
          clear PK HR
          go_wp2_with (fail)
          obtain ⟨W2, hW2⟩ : ∃ W2, wr.alloc (.cells #[.int .i64 xa, .int .i64 xw, .pointer (some ⟨w.heap.size, xj, none⟩)] 120) = W2 := ⟨_, rfl⟩
          rw [hW2] at PN RN y0 y1 y2 y3 ⊢
          clear hW2 k0 k1 k2
          go_region_held3 (fun w' => w'.cell? ⟨wr.heap.size, 1, none⟩ = some (.int .i64 xw) ∧ w'.cell? ⟨wr.heap.size, 2, none⟩ = some (.pointer (some ⟨w.heap.size, xj, none⟩)) ∧ w'.cell? ⟨w.heap.size, xj, none⟩ = some (.int .i64 xn)) (go_keep) ((go_at_call 84; refine (num_Put.at_ _ _ _ _ _ hx5 HPUT).mono ?_; rintro e w4 ⟨A3, c3, rfl, hc3, hC3, hb3, hA3⟩; have z1 := pw_cell_below hb3 y1; have z2 := pw_cell_below hb3 y2; have z3 := pw_cell_below hb3 y3))
          have PF := Aside0.mk ((PN.out.below (below_drew (Below.refl _ _))).below hb3)
          have RF := Aside0.mk (Kd.R_below (Kd.R_drew RN.out) hb3)
          have z0 := pw_cell_below hb3 y0
          have z4 := (blk_cell PF.out.box 0)
          simp only [List.getElem?_toArray, List.getElem?_cons_succ, List.getElem?_cons_zero] at z4
          have hgA : ∀ ad, A3 = some ad → ad.block ≠ g := fun ad h => by have h5 := hA3 ad h; have h6 : g < W2.drew.heap.size := blk_lt PN.out.row; omega
          have hg4 : g < w4.heap.size := blk_lt PF.out.row
          have HCA := Aside0.mk (Kd.C_below hC3 (below_alloc (Below.refl w4.heap.size w4) (.cells #[.slice A3 pl.length c3] 43)))
          have PA := PF.out.below (below_alloc (Below.refl w4.heap.size w4) (.cells #[.slice A3 pl.length c3] 43))
          have RA := Aside0.mk (Kd.R_alloc RF.out (.cells #[.slice A3 pl.length c3] 43))
          have hcall := head_put1.at_ PA xa hfit0 w4.heap.size c3 A3 pl (heap_alloc_new w4 _) hc3 HCA.out (by omega) hgA hfit HBY.out hwg (by omega)
          clear PA z1 z2 z3 y0 y1 y2 y3 hb3 hC3 hA3 hc3 hgA PN RN PF RF HCA
          go_wp2_with (first | (go_at_call 82; refine hcall.mono ?_; rintro e w5 ⟨rfl, hPG, hT⟩))
          have PF := Aside0.mk hPG
          have RF := Aside0.mk (R_turn RA.out hT (by omega))
          clear hPG hT z0 z4 hcall RA
          go_roundw
          case rel => exact ⟨k + 1, by go_num, by omega, ⟨by rw [HTK.out]; exact PF.out⟩, RF⟩
          case measure => simp [intOf]; omega
        · obtain rfl : k = ns.length := by omega
          have PK2 := Aside0.mk (by have := PK.out; rwa [List.take_length] at this)
          clear PK HR
          obtain ⟨z2, hz2⟩ : ∃ z2, ns.foldl layNum z1 = z2 := ⟨_, rfl⟩
          rw [hz2] at PK2
          have HZ2 := Aside0.mk hz2
          have hgw : g + 1 < wr.heap.size := blk_lt PK2.out.box
          have hwg : w.heap.size < g := by omega
          have y4 := (blk_cell PK2.out.box 0)
          simp only [List.getElem?_toArray, List.getElem?_cons_succ, List.getElem?_cons_zero] at y4
          have y8 := (blk_cell PK2.out.hd 8).trans (by simpa using HC8.out)
          have hput := head_putB.at_ PK2.out 156 (by decide) [f8] (show 156 + 1 < 512 by decide) (by intro c hc; simp only [List.mem_cons, List.not_mem_nil, or_false] at hc; omega) hwg (by omega)
          clear hz2
          go_wp2_with (fail)
          refine hput.mono ?_
          rintro e w5 ⟨rfl, hPG⟩
          have PG := Aside0.mk hPG
          clear hput y4 y8 hPG PK2
          have y4 := (blk_cell PG.out.box 0)
          simp only [List.getElem?_toArray, List.getElem?_cons_succ, List.getElem?_cons_zero] at y4
          have hput3 := head_put3.at_ PG.out hwg (by omega)
          have kc2 := kc ((w5.alloc (.cells #[.int .u8 117, .int .u8 115, .int .u8 116, .int .u8 97, .int .u8 114] 5 (5, 6))).alloc (.cells #[.int .u8 0] 5)) #[.int .u8 48, .int .u8 48] 2 2
          rw [World.size_alloc, World.size_alloc] at kc2
          go_wp2_with (fail)
          refine hput3.mono ?_
          rintro e w6 ⟨rfl, hPG⟩
          have PG6 := Aside0.mk hPG
          clear hput3 y4 hPG PG
          obtain ⟨z4, hz4⟩ : ∃ z4, layAll (splice z2 (Int.toNat 156) [f8]) 257 [[117, 115, 116, 97, 114], [0], [48, 48]] = z4 := ⟨_, rfl⟩
          rw [hz4] at PG6
          have HZ4 := Aside0.mk hz4
          have y4 := (blk_cell PG6.out.box 0)
          simp only [List.getElem?_toArray, List.getElem?_cons_succ, List.getElem?_cons_zero] at y4
          clear hz4
          have hsum := head_sum.at_ g z4 w6.drew PG6.out.row PG6.out.len PG6.out.byte
          rw [PG6.out.len] at hsum
          go_wp2_with (fail)
          go_region_held3 (fun w' => w'.cell? ⟨g + 1, 0, none⟩ = some (.slice (some ⟨g, 0, none⟩) 512 512)) (go_keep) (first | (go_at_call 85; refine hsum.mono ?_; rintro e w7 ⟨A7, c7, rfl, hc7, hC7, hb7, hA7⟩; have PH := Aside0.mk ((PG6.out.below (below_drew (Below.refl _ _))).below hb7); have x4 := pw_cell_below hb7 y4; have hg7 : g < w7.heap.size := blk_lt PH.out.row; have hcall7 := head_put1.at_ (PH.out.below (below_alloc (Below.refl w7.heap.size w7) (.cells #[.slice A7 (signL (sumL z4 0)).length c7] 43))) 148 (by decide) w7.heap.size c7 A7 (signL (sumL z4 0)) (heap_alloc_new w7 _) hc7 (Kd.C_below hC7 (below_alloc (Below.refl w7.heap.size w7) _)) (by omega) (fun ad h => by have h5 := hA7 ad h; have h6 : g < w6.drew.heap.size := blk_lt PG6.out.row; omega) (by unfold signL; rw [List.length_append, octL_length]; decide) (signL_byte _) hwg (by omega)) | (go_at_call 82; refine hcall7.mono ?_; rintro e w8 ⟨rfl, hPG8, hT8⟩; have x4 := (blk_cell hPG8.box 0).trans rfl))
          have PG8 := Aside0.mk hPG8
          clear hPG8 hT8 hcall7 PH hc7 hC7 hb7 hA7 hsum PG6
          go_wp2_with (fail)
          go_ret2
          have hR := R_of_block (base := w.heap.size) PG8.out.row (by omega) (by rw [PG8.out.len]; decide)
          rw [PG8.out.len] at hR
          have e1 : Int.toNat 156 = 156 := rfl
          have e2 : Int.toNat 148 = 148 := rfl
          have h4 := HZ4.out
          rw [e1] at h4
          rw [HZ1.out, HZ2.out, h4]
          rw [e2] at hR
          exact ⟨_, rfl, hR, PG8.out.bel⟩
set_option maxHeartbeats 1600000 in
set_option maxRecDepth 100000 in
theorem head_Put.no (h : Hd) (w : World) (hh : hdIn h) (hok : hdOk h = false) :
    Calls Tryz.prog 53 #[.agg (hdCells h).toArray] w fun e w' => e = .returned (.tuple #[.slice none 0 0, .bool false]) ∧ Below w.heap.size w w' := by
  have hmay : ∀ W, Calls Tryz.prog 80 #[.agg (hdCells h).toArray] W fun e w' => e = .returned (.bool false) ∧ Below W.heap.size W w' := fun W => head_May.calls h.f0 h.f1 h.f2 h.f3 h.f4 h.f5 h.f6 h.f7 h.f8 h.f9 h.f10 false W (by unfold head_May.f; rw [if_pos hh, hok])
  have HMAY := Aside0.mk hmay
  have HB0 := Aside0.mk (below_alloc (Below.refl w.heap.size w) (.cells (hdCells h).toArray 83))
  obtain ⟨f0, f1, f2, f3, f4, f5, f6, f7, f8, f9, f10⟩ := h
  clear hmay hh hok
  simp only [hdCells] at HMAY HB0 ⊢
  go_enter Tryz.func53, Tryz.ntmps53
  go_wp2_with (first | (go_at_call 80; refine (HMAY.out _).mono ?_; rintro e w1 ⟨rfl, hb1⟩))
  go_ret2
  exact ⟨rfl, below_step HB0.out hb1⟩
def headPut (h : Hd) : List Int × Bool := if hdOk h = true then (hdBlk h, true) else ([], false)
def head_Put.f (a0 a1 a2 : ByteArray) (a3 a4 a5 a6 a7 a8 a9 a10 : Int) : Option (List Int × Bool) :=
  if hdIn ⟨a0, a1, a2, a3, a4, a5, a6, a7, a8, a9, a10⟩ then some (headPut ⟨a0, a1, a2, a3, a4, a5, a6, a7, a8, a9, a10⟩) else none
set_option maxRecDepth 100000 in
theorem head_Put.calls (a0_0 a0_1 a0_2 : ByteArray) (a0_3 a0_4 a0_5 a0_6 a0_7 a0_8 a0_9 a0_10 : Int) (r1 : List Int) (r2 : Bool) (w : World) (h : head_Put.f a0_0 a0_1 a0_2 a0_3 a0_4 a0_5 a0_6 a0_7 a0_8 a0_9 a0_10 = some (r1, r2)) :
    Calls Tryz.prog 53 #[.agg #[.string a0_0, .string a0_1, .string a0_2, .int .i64 a0_3, .int .i64 a0_4, .int .i64 a0_5, .int .i64 a0_6, .int .i64 a0_7, .int .u8 a0_8, .int .i64 a0_9, .int .i64 a0_10]] w fun e w' => ∃ v0_ : Value, e = .returned (.tuple #[v0_, .bool r2]) ∧ Kd.R (Kd.int .u8) 5 w' w.heap.size (fun _ => True) v0_ r1 ∧ Below w.heap.size w w' := by
  obtain ⟨hd, hhd⟩ : ∃ hd : Hd, hd = ⟨a0_0, a0_1, a0_2, a0_3, a0_4, a0_5, a0_6, a0_7, a0_8, a0_9, a0_10⟩ := ⟨_, rfl⟩
  have key : Calls Tryz.prog 53 #[.agg (hdCells hd).toArray] w fun e w' => ∃ v0_ : Value, e = .returned (.tuple #[v0_, .bool r2]) ∧ Kd.R (Kd.int .u8) 5 w' w.heap.size (fun _ => True) v0_ r1 ∧ Below w.heap.size w w' := by
    unfold head_Put.f at h
    rw [← hhd] at h
    by_cases hh : hdIn hd
    · rw [if_pos hh] at h
      have hr := Option.some.inj h
      unfold headPut at hr
      cases hok : hdOk hd with
      | true =>
        rw [if_pos hok] at hr
        obtain ⟨rfl, rfl⟩ := Prod.mk.inj hr
        exact head_Put.ok hd w hh hok
      | false =>
        rw [if_neg (by rw [hok]; decide)] at hr
        obtain ⟨rfl, rfl⟩ := Prod.mk.inj hr
        refine (head_Put.no hd w hh hok).mono ?_
        rintro e w' ⟨rfl, hb⟩
        exact ⟨_, rfl, Kd.R_nil _ _ _ _ _, hb⟩
    · rw [if_neg hh] at h
      cases h
  rw [hhd] at key
  exact key
end
end Go.Proofs.YtpedagpcblnnhaaGreat.X
