import Derived.Test.YtpedagpcblnnhaaGreatXK
import Derived.Test.YtpedagpcblnnhaaGreatXGget
import Derived.Test.YtpedagpcblnnhaaGreatXGhead
import Derived.Test.YtpedagpcblnnhaaGreatXGnum
import Derived.Test.YtpedagpcblnnhaaGreatP02p
import Derived.Test.YtpedagpcblnnhaaGreatYAll
import Derived.Test.YtpedagpcblnnhaaGreatP04g
import Derived.Test.YtpedagpcblnnhaaGreatPGA
import Derived.BigQuiet
import Derived.Deep.QuietTactic
import Derived.Deep.RegionHeld3
import Derived.Laws.EntriesVeiled
import Derived.WalkSpells
namespace Go.Proofs.YtpedagpcblnnhaaGreat.X
open Go.RowKit Go.Proofs.YtpedagpcblnnhaaGreatW.PrintWords Go.Proofs.YtpedagpcblnnhaaGreatW.PrintLast Go.Proofs.YtpedagpcblnnhaaGreatW.PrintMore
attribute [local go_sem] max2_int min2_int max_two min_two
set_option linter.unusedVariables false
set_option linter.unusedSimpArgs false
open Go.Proofs.YtpedagpcblnnhaaGreatY
theorem hd_list11 {α : Type} {l : List α} (h : l.length = 11) : ∃ a b c d e f g i j k m, l = [a, b, c, d, e, f, g, i, j, k, m] := by
  match l, h with
  | [a, b, c, d, e, f, g, i, j, k, m], _ => exact ⟨a, b, c, d, e, f, g, i, j, k, m, rfl⟩
theorem store_hd {W : World} {g : Nat} {cs : Array Value} {T : TypeId} (hg : W.heap[g]? = some (.cells cs T (0, 0))) (hl : cs.size = 11) (x0 x1 x2 x3 x4 x5 x6 x7 x8 x9 x10 : Value) :
    (((((((((((W.setCell ⟨g, 0, none⟩ x0).setCell ⟨g, 1, none⟩ x1).setCell ⟨g, 2, none⟩ x2).setCell ⟨g, 3, none⟩ x3).setCell ⟨g, 4, none⟩ x4).setCell ⟨g, 5, none⟩ x5).setCell ⟨g, 6, none⟩ x6).setCell ⟨g, 7, none⟩ x7).setCell ⟨g, 8, none⟩ x8).setCell ⟨g, 9, none⟩ x9).setCell ⟨g, 10, none⟩ x10).heap[g]? = some (.cells #[x0, x1, x2, x3, x4, x5, x6, x7, x8, x9, x10] T (0, 0)) := by
  have h := blk_set (blk_set (blk_set (blk_set (blk_set (blk_set (blk_set (blk_set (blk_set (blk_set (blk_set hg 0 x0) 1 x1) 2 x2) 3 x3) 4 x4) 5 x5) 6 x6) 7 x7) 8 x8) 9 x9) 10 x10
  rw [h]
  obtain ⟨l⟩ := cs
  obtain ⟨a, b, c, d, e, f, g, i, j, k, m, rfl⟩ := hd_list11 (show l.length = 11 from hl)
  simp only [List.setIfInBounds_toArray, List.set_cons_zero, List.set_cons_succ]
theorem below_hd {B : Nat} {w W : World} (h : Below B w W) {g : Nat} (hg : B ≤ g) (x0 x1 x2 x3 x4 x5 x6 x7 x8 x9 x10 : Value) :
    Below B w (((((((((((W.setCell ⟨g, 0, none⟩ x0).setCell ⟨g, 1, none⟩ x1).setCell ⟨g, 2, none⟩ x2).setCell ⟨g, 3, none⟩ x3).setCell ⟨g, 4, none⟩ x4).setCell ⟨g, 5, none⟩ x5).setCell ⟨g, 6, none⟩ x6).setCell ⟨g, 7, none⟩ x7).setCell ⟨g, 8, none⟩ x8).setCell ⟨g, 9, none⟩ x9).setCell ⟨g, 10, none⟩ x10) :=
  ((((((((((h.setCell (p := ⟨g, 0, none⟩) hg _).setCell (p := ⟨g, 1, none⟩) hg _).setCell (p := ⟨g, 2, none⟩) hg _).setCell (p := ⟨g, 3, none⟩) hg _).setCell (p := ⟨g, 4, none⟩) hg _).setCell (p := ⟨g, 5, none⟩) hg _).setCell (p := ⟨g, 6, none⟩) hg _).setCell (p := ⟨g, 7, none⟩) hg _).setCell (p := ⟨g, 8, none⟩) hg _).setCell (p := ⟨g, 9, none⟩) hg _).setCell (p := ⟨g, 10, none⟩) hg _
theorem hd_size : (Tryz.prog.info? 83).map (·.size) = some 11 := by kernel_rfl
set_option maxHeartbeats 1000000 in
set_option maxRecDepth 100000 in
theorem head_Get.short (A : Option Addr) (c : Nat) (l : List Int) (w : World) (h : l.length ≠ 512) (hm : l.length ≤ 9223372036854775807) :
    Calls Tryz.prog 59 #[.slice A l.length c] w fun e w' => e = .returned (.tuple #[.agg (hdCells hd0).toArray, .int .i64 1]) ∧ Below w.heap.size w w' := by
  have hn : ((l.length : Int) == 512) = false := beq_eq_false_iff_ne.2 (by omega)
  have hn2 : ((l.length : Int) != 512) = true := bne_iff_ne.2 (by omega)
  clear h
  go_enter Tryz.func59, Tryz.ntmps59
  go_wp2
  refine bodyPost_ret (results_list (rs := [.cell 2 83, .tmp 3]) rfl (by simp) (.cell w.heap.size 83 (hdCells hd0).toArray (0, 0) _ rfl (heap_alloc_new w _) Tryz.underlying83 rfl hd_size (.tmp .nil))) rfl ?_
  exact ⟨rfl, below_alloc (Below.refl _ _) _⟩
set_option maxHeartbeats 1000000 in
set_option maxRecDepth 100000 in
theorem head_Get.zero (A : Option Addr) (c : Nat) (l : List Int) (w : World) (hC : Kd.C (Kd.int .u8) w A l.length l) (hc : l.length ≤ c) (h : l.length = 512) (hz : l.all (fun c => c == 0) = true) :
    Calls Tryz.prog 59 #[.slice A l.length c] w fun e w' => e = .returned (.tuple #[.agg (hdCells hd0).toArray, .int .i64 4]) ∧ Below w.heap.size w w' := by
  have hzero := fun W (hC : Kd.C (Kd.int .u8) W A l.length l) => block_Zero.calls A c l true W hC hc (by unfold block_Zero.f; rw [hz])
  have hz2 := hzero _ (Kd.C_below hC (below_alloc (Below.refl w.heap.size w) (.cells (hdCells hd0).toArray 83)))
  have hg0 := heap_alloc_new w (.cells (hdCells hd0).toArray 83)
  simp only [hdCells, hd0] at hz2 hg0
  rw [h] at hz2 hc ⊢
  clear h hz hC hzero
  go_enter Tryz.func59, Tryz.ntmps59
  go_wp2_with (first | (go_at_call 64; refine hz2.mono ?_; rintro e w1 ⟨rfl, ⟨nd, rfl⟩⟩))
  refine bodyPost_ret (results_list (rs := [.cell 2 83, .tmp 3]) rfl (by simp) (.cell w.heap.size 83 (hdCells hd0).toArray (0, 0) _ rfl (store_hd (blk_drewN hg0 nd) rfl _ _ _ _ _ _ _ _ _ _ _) Tryz.underlying83 rfl hd_size (.tmp .nil))) rfl ?_
  exact ⟨rfl, below_hd (pw_below_drewN (below_alloc (Below.refl _ _) _) _) (Nat.le_refl _) _ _ _ _ _ _ _ _ _ _ _⟩
set_option maxHeartbeats 1600000 in
set_option maxRecDepth 100000 in
theorem head_sumC.at_ (A : Option Addr) (c : Nat) (l : List Int) (w : World) (hC : Kd.C (Kd.int .u8) w A l.length l) (hc : l.length ≤ c) (hl : l.length = 512) (hr : ∀ c ∈ l, 0 ≤ c ∧ c ≤ 255) :
    Calls Tryz.prog 85 #[.agg #[.slice A l.length c]] w fun e w' => ∃ A c, e = .returned (.slice A (signL (sumL l 0)).length c) ∧ (signL (sumL l 0)).length ≤ c ∧ Kd.C (Kd.int .u8) w' A (signL (sumL l 0)).length (signL (sumL l 0)) ∧ Below w.heap.size w w' := by
  have hbd := sumL_bd l 0 hr
  rw [hl] at hbd
  have hsum := fun (W : World) (hb : Below w.heap.size w W) => head_Sum.at_ A c l W hl hr (Kd.C_below hC hb) hc
  obtain ⟨n, hn⟩ := Int.eq_ofNat_of_zero_le hbd.1
  rw [hn] at hsum hbd ⊢
  have hn2 : n ≤ 130560 := by omega
  have hz : n / 8 ^ 6 = 0 := Nat.div_eq_of_lt (by omega)
  have hoct := fun W => num_Octal.calls (n : Int) 6 (strOfNums (octL n 6), true) W (by
    unfold num_Octal.f
    rw [if_neg (by omega)]
    have : octOk (n : Int) 6 = true := by
      unfold octOk
      rw [decide_eq_true (show (0 : Int) ≤ n by omega)]
      simp [hz]
    rw [if_pos this]
    rfl)
  obtain ⟨txt, htxt⟩ : ∃ s, strOfNums (octL n 6) = s := ⟨_, rfl⟩
  rw [htxt] at hoct
  have hbo : bytesOf txt = octL n 6 := by rw [← htxt]; exact bytes_of_nums _ (octL_range 6 n)
  have hsz : txt.size = 6 := by rw [← htxt, strOfNums_size, octL_length]
  have HBO := Aside0.mk hbo
  have HSZ := Aside0.mk hsz
  have HS := Aside0.mk hsum
  have HB0 := Aside0.mk (below_alloc (Below.refl w.heap.size w) (.cells #[.slice A l.length c] 108))
  have kb := fun W => print_bytes (P := Tryz.prog) 9 43 5 Tryz.underlying9 Tryz.underlying43 Tryz.underlying5 txt W
  have hsg : signL (n : Int) = octL n 6 ++ [0, 32] := rfl
  rw [hsg]
  clear htxt hbo hsz hsum hC hn hbd hz hr hsg hl
  go_enter Tryz.func85, Tryz.ntmps85
  go_wp2_with (first | (go_at_call 113; refine (HS.out _ HB0.out).mono ?_; rintro e w' ⟨rfl, ⟨nd, rfl⟩⟩) | (go_at_call 112; refine (hoct _).mono ?_; rintro e w1 ⟨rfl, hb1⟩) | (at_builtin; refine wpList_append_bytes w1 rfl (.tmp 14) (.tmp 15) 43 5 rfl Tryz.underlying43 info5 txt [0, 32] (by decide) rfl rfl (by have := HSZ.out; simp; omega) ?_; intro g c w2 hg hc hC hb2))
  go_ret
  have e : (octL n 6 ++ [0, 32]).length = txt.size + 2 := by rw [List.length_append, octL_length, HSZ.out]; rfl
  rw [HBO.out] at hC hc
  rw [← e]
  have hz1 : w.heap.size + 1 ≤ w1.heap.size := by have := hb1.size; simpa using this
  refine ⟨_, c, rfl, hc, hC, ?_⟩
  exact below_then (pw_below_drewN HB0.out _) (by simp) (below_then hb1 hb1.size hb2)
structure GetAt (w : World) (hb : Nat) (cs : Array Value) (W : World) : Prop where
  out : W.heap[w.heap.size]? = some (.cells (hdCells hd0).toArray 83 (0, 0))
  hd : W.heap[hb]? = some (.cells cs 83 (0, 0))
  bel : Below w.heap.size w W
  len : cs.size = 11
  pos : w.heap.size < hb
theorem GetAt.below {w : World} {hb : Nat} {cs : Array Value} {W W' : World} (k : GetAt w hb cs W) (h : Below W.heap.size W W') : GetAt w hb cs W' := ⟨blk_below k.out h, blk_below k.hd h, below_step k.bel h, k.len, k.pos⟩
theorem GetAt.drewN {w : World} {hb : Nat} {cs : Array Value} {W : World} (k : GetAt w hb cs W) (n : Nat) : GetAt w hb cs (W.drewN n) := ⟨blk_drewN k.out n, blk_drewN k.hd n, pw_below_drewN k.bel n, k.len, k.pos⟩
theorem GetAt.set {w : World} {hb : Nat} {cs : Array Value} {W : World} (k : GetAt w hb cs W) (j : Nat) (v : Value) : GetAt w hb (cs.setIfInBounds j v) (W.setCell ⟨hb, j, none⟩ v) :=
  ⟨blk_far k.out (Nat.ne_of_lt k.pos) v, blk_set k.hd j v, k.bel.setCell (p := ⟨hb, j, none⟩) (Nat.le_of_lt k.pos) _, by rw [Array.size_setIfInBounds]; exact k.len, k.pos⟩
def getWl (ty : Int) : List (Nat × Nat × Nat) := [(0, 100, 0), (157, 100, 2)] ++ if ty = 77 then [] else [(345, 155, 1)]
def getNl (ty : Int) : List (Nat × Nat × Nat) := [(100, 8, 3), (108, 8, 4), (116, 8, 5), (124, 12, 6), (136, 12, 7)] ++ if ty = 77 then [(369, 12, 9), (483, 12, 10)] else []
theorem wl_eq (b : Nat) (ty : Int) : wordsL b ty = (getWl ty).map fun x => ((x.1 : Int), (x.2.1 : Int), ⟨b, x.2.2, none⟩) := by unfold wordsL getWl; split <;> rfl
theorem nl_eq (b : Nat) (ty : Int) : numbersL b ty = (getNl ty).map fun x => ((x.1 : Int), (x.2.1 : Int), ⟨b, x.2.2, none⟩) := by unfold numbersL getNl; split <;> rfl
theorem wl_fit (ty : Int) : ∀ x ∈ getWl ty, x.1 + x.2.1 ≤ 512 ∧ x.2.2 < 11 := by
  intro x hx
  unfold getWl at hx
  split at hx
  · simp only [List.append_nil, List.mem_cons, List.not_mem_nil, or_false] at hx
    rcases hx with rfl | rfl <;> exact ⟨by decide, by decide⟩
  · simp only [List.cons_append, List.nil_append, List.mem_cons, List.not_mem_nil, or_false] at hx
    rcases hx with rfl | rfl | rfl <;> exact ⟨by decide, by decide⟩
theorem nl_fit (ty : Int) : ∀ x ∈ getNl ty, x.1 + x.2.1 ≤ 512 ∧ x.2.2 < 11 := by
  intro x hx
  unfold getNl at hx
  split at hx
  · simp only [List.cons_append, List.nil_append, List.mem_cons, List.not_mem_nil, or_false] at hx
    rcases hx with rfl | rfl | rfl | rfl | rfl | rfl | rfl <;> exact ⟨by decide, by decide⟩
  · simp only [List.append_nil, List.mem_cons, List.not_mem_nil, or_false] at hx
    rcases hx with rfl | rfl | rfl | rfl | rfl <;> exact ⟨by decide, by decide⟩
def getSetW (l : List Int) (cs : Array Value) (x : Nat × Nat × Nat) : Array Value := cs.setIfInBounds x.2.2 (.string (strOfNums (uptoL (sub l x.1 x.2.1))))
def getSetN (l : List Int) (cs : Array Value) (x : Nat × Nat × Nat) : Array Value := cs.setIfInBounds x.2.2 (.int .i64 (getN (sub l x.1 x.2.1)).1)
theorem sub_eq (l : List Int) (a n : Nat) : (l.take (a + n)).drop a = sub l a n := by
  unfold sub
  rw [List.drop_take, Nat.add_sub_cancel_left]
theorem sub_cut {w : World} {A : Option Addr} {l : List Int} (c : Nat) (h : Kd.C (Kd.int .u8) w A l.length l) (hc : l.length ≤ c) (a n : Nat) (hf : a + n ≤ l.length) :
    ∃ A2 c2, (∀ W, (Instr.slice 43 (.slice A l.length c) (some (.int .i64 (a : Int))) (some (.int .i64 ((a : Int) + (n : Int)))) none).run Tryz.prog W = .ok (.slice A2 (sub l a n).length c2) W) ∧ Kd.C (Kd.int .u8) w A2 (sub l a n).length (sub l a n) ∧ (sub l a n).length ≤ c2 := by
  obtain ⟨A2, c2, h1, h2, h3⟩ := cut_bytes c h hc a (a + n) (by omega) hf
  rw [sub_eq, Int.natCast_add] at h1
  rw [sub_eq] at h2 h3
  exact ⟨A2, c2, h1, h2, h3⟩
theorem sub_byte {l : List Int} (h : ∀ c ∈ l, 0 ≤ c ∧ c ≤ 255) (a n : Nat) : ∀ c ∈ sub l a n, 0 ≤ c ∧ c ≤ 255 := fun c hc => h c (by unfold sub at hc; exact List.mem_of_mem_drop (List.mem_of_mem_take hc))
theorem head_cells8 (l : List Int) : ((getWl (l.getD 156 0)).foldl (getSetW l) #[.string ⟨#[]⟩, .string ⟨#[]⟩, .string ⟨#[]⟩, .int .i64 0, .int .i64 0, .int .i64 0, .int .i64 0, .int .i64 0, .int .u8 (l.getD 156 0), .int .i64 0, .int .i64 0])[8]? = some (.int .u8 (l.getD 156 0)) := by
  unfold getWl
  by_cases c : l.getD 156 0 = 77
  · simp only [if_pos c, List.cons_append, List.nil_append, List.append_nil, List.foldl_cons, List.foldl_nil, getSetW, List.setIfInBounds_toArray, List.set_cons_zero, List.set_cons_succ]
    rfl
  · simp only [if_neg c, List.cons_append, List.nil_append, List.append_nil, List.foldl_cons, List.foldl_nil, getSetW, List.setIfInBounds_toArray, List.set_cons_zero, List.set_cons_succ]
    rfl
set_option maxHeartbeats 400000 in
theorem head_cells (l : List Int) : (getNl (l.getD 156 0)).foldl (getSetN l) ((getWl (l.getD 156 0)).foldl (getSetW l) #[.string ⟨#[]⟩, .string ⟨#[]⟩, .string ⟨#[]⟩, .int .i64 0, .int .i64 0, .int .i64 0, .int .i64 0, .int .i64 0, .int .u8 (l.getD 156 0), .int .i64 0, .int .i64 0]) = (hdCells (guess l)).toArray := by
  unfold getNl getWl guess
  by_cases c : l.getD 156 0 = 77
  · simp only [if_pos c, List.cons_append, List.nil_append, List.append_nil, List.foldl_cons, List.foldl_nil, getSetW, getSetN, List.setIfInBounds_toArray, List.set_cons_zero, List.set_cons_succ, hdCells]
  · simp only [if_neg c, List.cons_append, List.nil_append, List.append_nil, List.foldl_cons, List.foldl_nil, getSetW, getSetN, List.setIfInBounds_toArray, List.set_cons_zero, List.set_cons_succ, hdCells]
set_option maxHeartbeats 1600000 in
set_option maxRecDepth 100000 in
theorem head_Get.sum (A : Option Addr) (c : Nat) (l : List Int) (w : World) (hC : Kd.C (Kd.int .u8) w A l.length l) (hc : l.length ≤ c) (hby : ∀ x ∈ l, 0 ≤ x ∧ x ≤ 255) (h : l.length = 512) (hz : l.all (fun c => c == 0) = false) (hs : sub l 148 8 ≠ signL (sumL l 0)) :
    Calls Tryz.prog 59 #[.slice A l.length c] w fun e w' => e = .returned (.tuple #[.agg (hdCells hd0).toArray, .int .i64 3]) ∧ Below w.heap.size w w' := by
  have hzero := fun W (hC : Kd.C (Kd.int .u8) W A l.length l) => block_Zero.calls A c l false W hC hc (by unfold block_Zero.f; rw [hz])
  have hsum := fun W (hC : Kd.C (Kd.int .u8) W A l.length l) => head_sumC.at_ A c l W hC hc h hby
  obtain ⟨A2, c2, hcut, hK, hc2⟩ := sub_cut c hC hc 148 8 (by omega)
  have hq : bytes_Equal.f (sub l 148 8) (signL (sumL l 0)) = some false := by
    unfold bytes_Equal.f
    rw [str_beq (sub_byte hby _ _) (signL_byte _), decide_eq_false hs]
  generalize sub l 148 8 = sl at hcut hK hc2 hq
  generalize signL (sumL l 0) = sg at hsum hq
  rw [h] at hzero hsum hcut hC hc ⊢
  have HC := Aside0.mk hC
  have HK := Aside0.mk hK
  have HB0 := Aside0.mk (below_alloc (Below.refl w.heap.size w) (.cells (hdCells hd0).toArray 83))
  have HG0 := Aside0.mk (heap_alloc_new w (.cells (hdCells hd0).toArray 83))
  simp only [hdCells, hd0] at HB0 HG0
  have hcut' : ∀ W, (Instr.slice 43 (.slice A 512 c) (some (.int .i64 148)) (some (.int .i64 156)) none).run Tryz.prog W = .ok (.slice A2 sl.length c2) W := hcut
  clear hz hs hC hK hcut hby h
  go_enter Tryz.func59, Tryz.ntmps59
  go_upto_region 6 with (first | (go_at_call 64; refine (hzero _ (Kd.C_below HC.out HB0.out)).mono ?_; rintro e w1 ⟨rfl, ⟨nd, rfl⟩⟩; have HB1 := Aside0.mk (below_alloc (pw_below_drewN HB0.out nd) (.cells #[.slice A 512 c] 108)); have HG1 := Aside0.mk (blk_alloc (blk_drewN HG0.out nd) (.cells #[.slice A 512 c] 108)); have HS1 := Aside0.mk (heap_alloc_new (World.drewN (w.alloc (.cells #[.string ⟨#[]⟩, .string ⟨#[]⟩, .string ⟨#[]⟩, .int .i64 0, .int .i64 0, .int .i64 0, .int .i64 0, .int .i64 0, .int .u8 0, .int .i64 0, .int .i64 0] 83)) nd) (.cells #[.slice A 512 c] 108))))
  have HBr := Aside0.mk (below_drew1 HB1.out)
  have HGr := Aside0.mk (blk_drew HG1.out)
  have hz1 : (World.drewN (w.alloc (.cells #[.string ⟨#[]⟩, .string ⟨#[]⟩, .string ⟨#[]⟩, .int .i64 0, .int .i64 0, .int .i64 0, .int .i64 0, .int .i64 0, .int .u8 0, .int .i64 0, .int .i64 0] 83)) nd).heap.size = w.heap.size + 1 := by simp
  rw [hz1] at HS1
  have HSr := Aside0.mk (blk_drew HS1.out)
  have y0 := (blk_cell HSr.out 0).trans (show _ = some (Value.slice A 512 c) from rfl)
  clear HB1 HG1 HS1 hz1
  go_region_held3 (fun w' => w'.cell? ⟨w.heap.size + 1, 0, none⟩ = some (Value.slice A 512 c)) (go_keep) (first | (go_at_call 85; refine (hsum _ (Kd.C_below HC.out HBr.out)).mono ?_; rintro e w3 ⟨A3, c3, rfl, hc3, hC3, hb3⟩; have HB3 := Aside0.mk (below_step HBr.out hb3); have HG3 := Aside0.mk (blk_below HGr.out hb3); have x0 := pw_cell_below hb3 y0; have HC3 := Aside0.mk hC3) | (go_at_call 92; refine (bytes_Equal.calls A2 c2 sl A3 c3 sg false w3 (Kd.C_below HK.out HB3.out) hc2 HC3.out hc3 hq).mono ?_; rintro e w4 ⟨rfl, ⟨nd4, rfl⟩⟩; have x0 := x0))
  have z0 := (blk_cell HG3.out 0).trans (show _ = some (Value.string ⟨#[]⟩) from rfl)
  have fz0 := blk_frozen HG3.out 0
  have z1 := (blk_cell HG3.out 1).trans (show _ = some (Value.string ⟨#[]⟩) from rfl)
  have fz1 := blk_frozen HG3.out 1
  have z2 := (blk_cell HG3.out 2).trans (show _ = some (Value.string ⟨#[]⟩) from rfl)
  have fz2 := blk_frozen HG3.out 2
  have z3 := (blk_cell HG3.out 3).trans (show _ = some (Value.int .i64 0) from rfl)
  have fz3 := blk_frozen HG3.out 3
  have z4 := (blk_cell HG3.out 4).trans (show _ = some (Value.int .i64 0) from rfl)
  have fz4 := blk_frozen HG3.out 4
  have z5 := (blk_cell HG3.out 5).trans (show _ = some (Value.int .i64 0) from rfl)
  have fz5 := blk_frozen HG3.out 5
  have z6 := (blk_cell HG3.out 6).trans (show _ = some (Value.int .i64 0) from rfl)
  have fz6 := blk_frozen HG3.out 6
  have z7 := (blk_cell HG3.out 7).trans (show _ = some (Value.int .i64 0) from rfl)
  have fz7 := blk_frozen HG3.out 7
  have z8 := (blk_cell HG3.out 8).trans (show _ = some (Value.int .u8 0) from rfl)
  have fz8 := blk_frozen HG3.out 8
  have z9 := (blk_cell HG3.out 9).trans (show _ = some (Value.int .i64 0) from rfl)
  have fz9 := blk_frozen HG3.out 9
  have z10 := (blk_cell HG3.out 10).trans (show _ = some (Value.int .i64 0) from rfl)
  have fz10 := blk_frozen HG3.out 10
  all_goals
    go_wp2_with (fail)
    refine bodyPost_ret (results_list (rs := [.cell 2 83, .tmp 3]) rfl (by simp) (.cell w.heap.size 83 (hdCells hd0).toArray (0, 0) _ rfl (store_hd (blk_drewN HG3.out nd4) rfl _ _ _ _ _ _ _ _ _ _ _) Tryz.underlying83 rfl hd_size (.tmp .nil))) rfl ?_
    exact ⟨rfl, below_hd (pw_below_drewN HB3.out _) (Nat.le_refl _) _ _ _ _ _ _ _ _ _ _ _⟩
set_option maxHeartbeats 1600000 in
set_option maxRecDepth 100000 in
theorem head_Get.main (A : Option Addr) (c : Nat) (l : List Int) (w : World) (hC : Kd.C (Kd.int .u8) w A l.length l) (hc : l.length ≤ c) (hby : ∀ x ∈ l, 0 ≤ x ∧ x ≤ 255) (h : l.length = 512) (hz : l.all (fun c => c == 0) = false) (hs : sub l 148 8 = signL (sumL l 0)) (hgi : hdIn (guess l)) (R : Hd × Int) (hR : R = if (headPut (guess l)).2 = true ∧ (headPut (guess l)).1 = l then (guess l, 0) else (hd0, 2)) :
    Calls Tryz.prog 59 #[.slice A l.length c] w fun e w' => e = .returned (.tuple #[.agg (hdCells R.1).toArray, .int .i64 R.2]) ∧ Below w.heap.size w w' := by
  have hzero := fun W (hC : Kd.C (Kd.int .u8) W A l.length l) => block_Zero.calls A c l false W hC hc (by unfold block_Zero.f; rw [hz])
  have hsum := fun W (hC : Kd.C (Kd.int .u8) W A l.length l) => head_sumC.at_ A c l W hC hc h hby
  obtain ⟨A2, c2, hcut, hK, hc2⟩ := sub_cut c hC hc 148 8 (by omega)
  have hq : bytes_Equal.f (sub l 148 8) (signL (sumL l 0)) = some true := by
    unfold bytes_Equal.f
    rw [str_beq (sub_byte hby _ _) (signL_byte _), decide_eq_true hs]
  rw [← hs] at hsum hq
  generalize sub l 148 8 = sl at hcut hK hc2 hq hsum
  have hput : ∀ W, Calls Tryz.prog 53 #[.agg (hdCells (guess l)).toArray] W fun e w' => ∃ A3 c3, e = .returned (.tuple #[.slice A3 (headPut (guess l)).1.length c3, .bool (headPut (guess l)).2]) ∧ Aside0 (Kd.C (Kd.int .u8) w' A3 (headPut (guess l)).1.length (headPut (guess l)).1) ∧ Aside0 ((headPut (guess l)).1.length ≤ c3) ∧ Below W.heap.size W w' := fun W => (head_Put.calls _ _ _ _ _ _ _ _ _ _ _ (headPut (guess l)).1 (headPut (guess l)).2 W (by unfold head_Put.f; exact if_pos hgi)).mono (by
    rintro e w' ⟨v, rfl, hR, hB⟩
    obtain ⟨A3, c3, rfl⟩ := Kd.R_slice hR
    have h3 := Kd.R_reads' hR
    exact ⟨A3, c3, rfl, ⟨h3.2.2⟩, ⟨h3.2.1⟩, hB⟩)
  have hpb : ∀ x ∈ (headPut (guess l)).1, 0 ≤ x ∧ x ≤ 255 := by
    unfold headPut
    split
    · exact byteOk_hdBlk hgi.1
    · intro x hx; cases hx
  obtain ⟨ty, hty⟩ : ∃ ty, l.getD 156 0 = ty := ⟨_, rfl⟩
  have hws := wl_fit ty
  have hns := nl_fit ty
  have hcs := head_cells l
  have hc8 := head_cells8 l
  rw [hty] at hcs hc8
  have hwl := fun b => wl_eq b ty
  have hnl := fun b => nl_eq b ty
  have hwm : (getWl ty).length ≤ 9223372036854775807 := by unfold getWl; split <;> simp
  have hnm : (getNl ty).length ≤ 9223372036854775807 := by unfold getNl; split <;> simp
  generalize guess l = G at hR hput hcs hpb
  generalize headPut G = P at hR hput hpb
  obtain ⟨pl, pb⟩ := P
  simp only at hR hput hpb
  obtain ⟨_, _, hrd⟩ := Kd.reads_of_C (enc := Value.int .u8) (d := (0 : Int)) (h1 := fun _ => rfl) hC
  obtain ⟨ad, rfl, hcells⟩ := hrd (by omega)
  have hx156 := hcells 156 (by omega)
  rw [hty] at hx156
  have hx156 : w.cell? ⟨ad.block, ad.off + 156, none⟩ = some (.int .u8 ty) := by simpa [Addr.add] using hx156
  have hcw := fun (hb : Nat) (W : World) (hh : W.heap[hb]? = some (.cells #[.string ⟨#[]⟩, .string ⟨#[]⟩, .string ⟨#[]⟩, .int .i64 0, .int .i64 0, .int .i64 0, .int .i64 0, .int .i64 0, .int .u8 ty, .int .i64 0, .int .i64 0] 83 (0, 0))) => head_words.at_ hb #[.string ⟨#[]⟩, .string ⟨#[]⟩, .string ⟨#[]⟩, .int .i64 0, .int .i64 0, .int .i64 0, .int .i64 0, .int .i64 0, .int .u8 ty, .int .i64 0, .int .i64 0] ty rfl W hh
  have hcn := fun (hb : Nat) (cs : Array Value) (h8 : cs[8]? = some (.int .u8 ty)) (W : World) (hh : W.heap[hb]? = some (.cells cs 83 (0, 0))) => head_numbers.at_ hb cs ty h8 W hh
  generalize getWl ty = ws at hws hcs hwl hwm hc8
  generalize getNl ty = ns at hns hcs hnl hnm
  have hsub := fun (W : World) (hb : Below w.heap.size w W) (a n : Nat) (hf : a + n ≤ 512) => sub_cut c (Kd.C_below hC hb) hc a n (by omega)
  rw [h] at hzero hsum hcut hC hc hsub ⊢
  have HC := Aside0.mk hC
  have HK := Aside0.mk hK
  have HBY := Aside0.mk hby
  have HRR := Aside0.mk hR
  have HCS := Aside0.mk hcs
  have HWS := Aside0.mk hws
  have HNS := Aside0.mk hns
  have HPB := Aside0.mk hpb
  have HLEN := Aside0.mk h
  have HCW := Aside0.mk hcw
  have HCN := Aside0.mk hcn
  have HPUT := Aside0.mk hput
  have HSUB := Aside0.mk hsub
  have HWL := Aside0.mk hwl
  have HNL := Aside0.mk hnl
  have HB0 := Aside0.mk (below_alloc (Below.refl w.heap.size w) (.cells (hdCells hd0).toArray 83))
  have HG0 := Aside0.mk (heap_alloc_new w (.cells (hdCells hd0).toArray 83))
  simp only [hdCells, hd0] at HB0 HG0
  have hcut' : ∀ W, (Instr.slice 43 (.slice (some ad) 512 c) (some (.int .i64 148)) (some (.int .i64 156)) none).run Tryz.prog W = .ok (.slice A2 sl.length c2) W := hcut
  clear hz hs hC hK hcut hby h hgi hR hcs hws hns hpb hcw hcn hput hsub hwl hnl hrd hcells hty
  go_enter Tryz.func59, Tryz.ntmps59
  go_upto_region 6 with (first | (go_at_call 64; refine (hzero _ (Kd.C_below HC.out HB0.out)).mono ?_; rintro e w1 ⟨rfl, ⟨nd, rfl⟩⟩; have HB1 := Aside0.mk (below_alloc (pw_below_drewN HB0.out nd) (.cells #[.slice (some ad) 512 c] 108)); have HG1 := Aside0.mk (blk_alloc (blk_drewN HG0.out nd) (.cells #[.slice (some ad) 512 c] 108)); have HS1 := Aside0.mk (heap_alloc_new (World.drewN (w.alloc (.cells #[.string ⟨#[]⟩, .string ⟨#[]⟩, .string ⟨#[]⟩, .int .i64 0, .int .i64 0, .int .i64 0, .int .i64 0, .int .i64 0, .int .u8 0, .int .i64 0, .int .i64 0] 83)) nd) (.cells #[.slice (some ad) 512 c] 108))))
  have HBr := Aside0.mk (below_drew1 HB1.out)
  have HGr := Aside0.mk (blk_drew HG1.out)
  have hz1 : (World.drewN (w.alloc (.cells #[.string ⟨#[]⟩, .string ⟨#[]⟩, .string ⟨#[]⟩, .int .i64 0, .int .i64 0, .int .i64 0, .int .i64 0, .int .i64 0, .int .u8 0, .int .i64 0, .int .i64 0] 83)) nd).heap.size = w.heap.size + 1 := by simp
  rw [hz1] at HS1
  have HSr := Aside0.mk (blk_drew HS1.out)
  have y0 := (blk_cell HSr.out 0).trans (show _ = some (Value.slice (some ad) 512 c) from rfl)
  clear HB1 HG1 HS1 hz1
  go_region_held3 (fun w' => w'.cell? ⟨w.heap.size + 1, 0, none⟩ = some (Value.slice (some ad) 512 c)) (go_keep) (first | (go_at_call 85; refine (hsum _ (Kd.C_below HC.out HBr.out)).mono ?_; rintro e w3 ⟨A3, c3, rfl, hc3, hC3, hb3⟩; have HB3 := Aside0.mk (below_step HBr.out hb3); have HG3 := Aside0.mk (blk_below HGr.out hb3); have x0 := pw_cell_below hb3 y0; have HC3 := Aside0.mk hC3) | (go_at_call 92; refine (bytes_Equal.calls A2 c2 sl A3 c3 sl true w3 (Kd.C_below HK.out HB3.out) hc2 HC3.out hc3 hq).mono ?_; rintro e w4 ⟨rfl, ⟨nd4, rfl⟩⟩; have x0 := x0))
  go_upto_region 8 with (fail)
  obtain ⟨W4, hW4⟩ : ∃ W4, w3.drewN nd4 = W4 := ⟨_, rfl⟩
  have HG4 := blk_drewN HG3.out nd4
  have HB4 := pw_below_drewN HB3.out nd4
  rw [hW4] at HG4 HB4 ⊢
  have hx4 := pw_cell_below HB4 hx156
  have HG4 := Aside0.mk HG4
  have HB4 := Aside0.mk HB4
  clear hW4 HG3 HB3
  go_upto_region 9 with (fail)
  obtain ⟨hb, hhb⟩ : ∃ hb, W4.heap.size = hb := ⟨_, rfl⟩
  have hhb2 : w.heap.size < hb := by have := blk_lt HG4.out; omega
  have HX : Aside0 (GetAt w hb #[.string ⟨#[]⟩, .string ⟨#[]⟩, .string ⟨#[]⟩, .int .i64 0, .int .i64 0, .int .i64 0, .int .i64 0, .int .i64 0, .int .u8 ty, .int .i64 0, .int .i64 0] (W4.alloc (.cells #[.string ⟨#[]⟩, .string ⟨#[]⟩, .string ⟨#[]⟩, .int .i64 0, .int .i64 0, .int .i64 0, .int .i64 0, .int .i64 0, .int .u8 ty, .int .i64 0, .int .i64 0] 83))) := ⟨⟨blk_alloc HG4.out _, by have h7 := heap_alloc_new W4 (.cells #[.string ⟨#[]⟩, .string ⟨#[]⟩, .string ⟨#[]⟩, .int .i64 0, .int .i64 0, .int .i64 0, .int .i64 0, .int .i64 0, .int .u8 ty, .int .i64 0, .int .i64 0] 83); rw [hhb] at h7; exact h7, below_alloc HB4.out _, rfl, hhb2⟩⟩
  rw [hhb]
  have hcw2 : ∀ (W : World) (hh : W.heap[hb]? = some (.cells #[.string ⟨#[]⟩, .string ⟨#[]⟩, .string ⟨#[]⟩, .int .i64 0, .int .i64 0, .int .i64 0, .int .i64 0, .int .i64 0, .int .u8 ty, .int .i64 0, .int .i64 0] 83 (0, 0))), Calls Tryz.prog 81 #[.pointer (some ⟨hb, 0, none⟩)] W fun e w' => ∃ A c, e = .returned (.slice A ws.length c) ∧ Kd.R kSpot 114 w' W.heap.size (fun _ => True) (.slice A ws.length c) (ws.map fun x => ((x.1 : Int), (x.2.1 : Int), ⟨hb, x.2.2, none⟩)) ∧ Below W.heap.size W w' := fun W hh => (HCW.out hb W hh).mono (by
    rw [HWL.out hb]
    rintro e w' ⟨v, rfl, hR, hB⟩
    obtain ⟨A, c, hv⟩ := Kd.R_slice hR
    rw [List.length_map] at hv
    subst hv
    exact ⟨A, c, rfl, hR, hB⟩)
  have hcn2 : ∀ (cs : Array Value) (h8 : cs[8]? = some (.int .u8 ty)) (W : World) (hh : W.heap[hb]? = some (.cells cs 83 (0, 0))), Calls Tryz.prog 83 #[.pointer (some ⟨hb, 0, none⟩)] W fun e w' => ∃ A c, e = .returned (.slice A ns.length c) ∧ Kd.R kSpot 120 w' W.heap.size (fun _ => True) (.slice A ns.length c) (ns.map fun x => ((x.1 : Int), (x.2.1 : Int), ⟨hb, x.2.2, none⟩)) ∧ Below W.heap.size W w' := fun cs h8 W hh => (HCN.out hb cs h8 W hh).mono (by
    rw [HNL.out hb]
    rintro e w' ⟨v, rfl, hR, hB⟩
    obtain ⟨A, c, hv⟩ := Kd.R_slice hR
    rw [List.length_map] at hv
    subst hv
    exact ⟨A, c, rfl, hR, hB⟩)
  have HCW2 := Aside0.mk hcw2
  have HCN2 := Aside0.mk hcn2
  clear hcw2 hcn2 HCW HCN HWL HNL hzero hsum hcut' HB0 HG0 HBr HGr HSr y0 HG4 HB4 x0 HC3 hx4 hhb hx156 HK hc2 hq hc3
  go_wp2_with (first | (go_at_call 81; refine (HCW2.out _ HX.out.hd).mono ?_; rintro e w5 ⟨A5, c5, rfl, hR5, hb5⟩; have HR5 := Aside0.mk (Kd.R_lower (base' := hb + 1) hR5 (blk_lt HX.out.hd)); have HX5 := Aside0.mk (HX.out.below hb5); clear hR5 hb5))
  go_loopw [8, 9, 10, 40] (fun v8 v9 v10 v40 wr => ∃ k : Nat, v40 = .int .i64 k ∧ k ≤ ws.length ∧ Aside0 (GetAt w hb ((ws.take k).foldl (getSetW l) #[.string ⟨#[]⟩, .string ⟨#[]⟩, .string ⟨#[]⟩, .int .i64 0, .int .i64 0, .int .i64 0, .int .i64 0, .int .i64 0, .int .u8 ty, .int .i64 0, .int .i64 0]) wr) ∧ Aside0 (Kd.R kSpot 114 wr (hb + 1) (fun _ => True) (.slice A5 ws.length c5) (ws.map fun x => ((x.1 : Int), (x.2.1 : Int), ⟨hb, x.2.2, none⟩)))) (fun _ _ _ v40 _ => ws.length - (intOf v40).toNat)
  case atStart => exact ⟨0, rfl, Nat.zero_le _, HX5, HR5⟩
  case round =>
    obtain ⟨k, rfl, hk, PK, HR⟩ := hrel
    clear HX5 HR5 HX
    by_cases hlt : k < ws.length
    · obtain ⟨g, c6, hv, hgb, k0, k1, k2⟩ := kSpot_at HR.out (k := k) (by rw [List.length_map]; exact hlt)
      rw [List.length_map] at hv
      injection hv with e1 e2 e3
      subst e1 e3
      clear e2
      simp only [List.getElem_map] at k0 k1 k2
      obtain ⟨hfit, hj⟩ := HWS.out ws[k] (List.getElem_mem hlt)
      have htk : (ws.take (k + 1)).foldl (getSetW l) #[.string ⟨#[]⟩, .string ⟨#[]⟩, .string ⟨#[]⟩, .int .i64 0, .int .i64 0, .int .i64 0, .int .i64 0, .int .i64 0, .int .u8 ty, .int .i64 0, .int .i64 0] = getSetW l ((ws.take k).foldl (getSetW l) #[.string ⟨#[]⟩, .string ⟨#[]⟩, .string ⟨#[]⟩, .int .i64 0, .int .i64 0, .int .i64 0, .int .i64 0, .int .i64 0, .int .u8 ty, .int .i64 0, .int .i64 0]) ws[k] := by rw [List.take_succ_eq_append_getElem hlt, List.foldl_append]; rfl
      obtain ⟨cur, hcur⟩ : ∃ cur, (ws.take k).foldl (getSetW l) #[.string ⟨#[]⟩, .string ⟨#[]⟩, .string ⟨#[]⟩, .int .i64 0, .int .i64 0, .int .i64 0, .int .i64 0, .int .i64 0, .int .u8 ty, .int .i64 0, .int .i64 0] = cur := ⟨_, rfl⟩
      rw [hcur] at PK htk
      generalize ws[k] = x at *
      obtain ⟨xa, xw, xj⟩ := x
      simp only at k0 k1 k2 hfit hj
      have HTK := Aside0.mk htk
      have hlt2 : (k : Int) < (ws.length : Int) := by omega
      have hk0 : (0 : Int) ≤ (k : Int) := by omega
      have hbw : hb < wr.heap.size := blk_lt PK.out.hd
      have P1 := Aside0.mk (PK.out.below (below_alloc (Below.refl wr.heap.size wr) (.cells #[.int .i64 (xa : Int), .int .i64 (xw : Int), .pointer (some ⟨hb, xj, none⟩)] 114)))
      have R1 := Aside0.mk (Kd.R_alloc HR.out (.cells #[.int .i64 (xa : Int), .int .i64 (xw : Int), .pointer (some ⟨hb, xj, none⟩)] 114))
      have y0 := blk_cell (heap_alloc_new wr (.cells #[.int .i64 (xa : Int), .int .i64 (xw : Int), .pointer (some ⟨hb, xj, none⟩)] 114)) 0
      have y1 := blk_cell (heap_alloc_new wr (.cells #[.int .i64 (xa : Int), .int .i64 (xw : Int), .pointer (some ⟨hb, xj, none⟩)] 114)) 1
      have y2 := blk_cell (heap_alloc_new wr (.cells #[.int .i64 (xa : Int), .int .i64 (xw : Int), .pointer (some ⟨hb, xj, none⟩)] 114)) 2
      simp only [List.getElem?_toArray, List.getElem?_cons_succ, List.getElem?_cons_zero] at y0 y1 y2
      have xa0 : (0 : Int) ≤ (xa : Int) := by omega
      have xf : (xa : Int) + (xw : Int) ≤ 512 := by omega
      clear htk hcur PK HR
      go_upto_region 12 with (fail)
      obtain ⟨W2, hW2⟩ : ∃ W2, wr.alloc (.cells #[.int .i64 (xa : Int), .int .i64 (xw : Int), .pointer (some ⟨hb, xj, none⟩)] 114) = W2 := ⟨_, rfl⟩
      rw [hW2] at P1 R1 y0 y1 y2 ⊢
      clear hW2 k0 k1 k2
      obtain ⟨A6, c7, hcut, hK6, hc7⟩ := HSUB.out W2 P1.out.bel xa xw hfit
      have hby6 := sub_byte HBY.out xa xw
      generalize hsl : sub l xa xw = s6 at hcut hK6 hc7 hby6
      have HSL := Aside0.mk hsl
      have HBW := below_alloc (Below.refl W2.heap.size W2) (.cells #[.int .u8 0] 5)
      have hsep : Kd.C (Kd.int .u8) (W2.alloc (.cells #[.int .u8 0] 5)) (some ⟨W2.heap.size, 0, none⟩) 1 [0] := C_block (x := [0]) (heap_alloc_new W2 _) (by decide)
      have hccall := bytes_Cut0.at_ A6 (some ⟨W2.heap.size, 0, none⟩) c7 1 s6 (W2.alloc (.cells #[.int .u8 0] 5)) (Kd.C_below hK6 HBW) hc7 hsep hby6
      have P2 := Aside0.mk (P1.out.below HBW)
      have R2 := Aside0.mk (Kd.R_alloc R1.out (.cells #[.int .u8 0] 5))
      have y2' := pw_cell_below HBW y2
      have hfz := blk_frozen P2.out.hd xj
      obtain ⟨u, hu⟩ : ∃ u, cur[xj]? = some u := ⟨cur[xj]'(by rw [P2.out.len]; exact hj), Array.getElem?_eq_getElem _⟩
      have hcj := (blk_cell P2.out.hd xj).trans hu
      clear hK6 hsep HBW hsl P1 R1
      go_wp2_with (first | (go_at_call 93; refine hccall.mono ?_; rintro e w7 ⟨A8, c8, v8, b8, rfl, hC8, ⟨nd8, rfl⟩⟩; have hcv := Kd.C_string (P := Tryz.prog) (c := c8) Tryz.underlying43 Tryz.underlying5 Tryz.underlying9 (Kd.C_drewN hC8 nd8)))
      go_roundw
      case rel =>
        refine ⟨k + 1, by go_num, by omega, ⟨?_⟩, ⟨?_⟩⟩
        · rw [HTK.out]
          unfold getSetW
          simp only [HSL.out]
          exact (P2.out.drewN nd8).set xj _
        · exact R_turn (Kd.R_drewN R2.out nd8) (Turn.setCell (S := fun k => k = hb) _ _ rfl) (Nat.lt_succ_self hb)
      case measure => simp [intOf]; omega
    · obtain rfl : k = ws.length := by omega
      have PK2 := Aside0.mk (by have := PK.out; rwa [List.take_length] at this)
      clear PK HR
      obtain ⟨cs1, hcs1⟩ : ∃ cs1, ws.foldl (getSetW l) #[.string ⟨#[]⟩, .string ⟨#[]⟩, .string ⟨#[]⟩, .int .i64 0, .int .i64 0, .int .i64 0, .int .i64 0, .int .i64 0, .int .u8 ty, .int .i64 0, .int .i64 0] = cs1 := ⟨_, rfl⟩
      rw [hcs1] at PK2 hc8
      have HCS1 := Aside0.mk hcs1
      clear hcs1
      go_wp2_with (first | (go_at_call 83; refine (HCN2.out cs1 hc8 _ PK2.out.hd).mono ?_; rintro e w7 ⟨A7, c7, rfl, hR7, hb7⟩; have HR7 := Aside0.mk (Kd.R_lower (base' := hb + 1) hR7 (blk_lt PK2.out.hd)); have HX7 := Aside0.mk (PK2.out.below hb7); clear hR7 hb7))
      clear PK2
      obtain ⟨wo, hwo⟩ : ∃ wo : World, wo = wr := ⟨_, rfl⟩
      go_loopw [67] (fun v67 wr => ∃ k : Nat, v67 = .int .i64 k ∧ k ≤ ns.length ∧ Aside0 (GetAt w hb ((ns.take k).foldl (getSetN l) cs1) wr) ∧ Aside0 (Kd.R kSpot 120 wr (hb + 1) (fun _ => True) (.slice A7 ns.length c7) (ns.map fun x => ((x.1 : Int), (x.2.1 : Int), ⟨hb, x.2.2, none⟩)))) (fun v67 _ => ns.length - (intOf v67).toNat)
      case atStart => exact ⟨0, rfl, Nat.zero_le _, HX7, HR7⟩
      case round =>
        clear hwo
        obtain ⟨k, rfl, hk, PK, HR⟩ := hrel
        clear HX7 HR7
        by_cases hlt : k < ns.length
        · obtain ⟨g, c6, hv, hgb, k0, k1, k2⟩ := kSpot_at HR.out (k := k) (by rw [List.length_map]; exact hlt)
          rw [List.length_map] at hv
          injection hv with e1 e2 e3
          subst e1 e3
          clear e2
          simp only [List.getElem_map] at k0 k1 k2
          obtain ⟨hfit, hj⟩ := HNS.out ns[k] (List.getElem_mem hlt)
          have htk : (ns.take (k + 1)).foldl (getSetN l) cs1 = getSetN l ((ns.take k).foldl (getSetN l) cs1) ns[k] := by rw [List.take_succ_eq_append_getElem hlt, List.foldl_append]; rfl
          obtain ⟨cur, hcur⟩ : ∃ cur, (ns.take k).foldl (getSetN l) cs1 = cur := ⟨_, rfl⟩
          rw [hcur] at PK htk
          generalize ns[k] = x at *
          obtain ⟨xa, xw, xj⟩ := x
          simp only at k0 k1 k2 hfit hj
          have HTK := Aside0.mk htk
          have hlt2 : (k : Int) < (ns.length : Int) := by omega
          have hk0 : (0 : Int) ≤ (k : Int) := by omega
          have hbw : hb < wr.heap.size := blk_lt PK.out.hd
          have P1 := Aside0.mk (PK.out.below (below_alloc (Below.refl wr.heap.size wr) (.cells #[.int .i64 (xa : Int), .int .i64 (xw : Int), .pointer (some ⟨hb, xj, none⟩)] 120)))
          have R1 := Aside0.mk (Kd.R_alloc HR.out (.cells #[.int .i64 (xa : Int), .int .i64 (xw : Int), .pointer (some ⟨hb, xj, none⟩)] 120))
          have y0 := blk_cell (heap_alloc_new wr (.cells #[.int .i64 (xa : Int), .int .i64 (xw : Int), .pointer (some ⟨hb, xj, none⟩)] 120)) 0
          have y1 := blk_cell (heap_alloc_new wr (.cells #[.int .i64 (xa : Int), .int .i64 (xw : Int), .pointer (some ⟨hb, xj, none⟩)] 120)) 1
          have y2 := blk_cell (heap_alloc_new wr (.cells #[.int .i64 (xa : Int), .int .i64 (xw : Int), .pointer (some ⟨hb, xj, none⟩)] 120)) 2
          simp only [List.getElem?_toArray, List.getElem?_cons_succ, List.getElem?_cons_zero] at y0 y1 y2
          have xa0 : (0 : Int) ≤ (xa : Int) := by omega
          have xf : (xa : Int) + (xw : Int) ≤ 512 := by omega
          clear htk hcur PK HR
          go_upto_region 18 with (fail)
          obtain ⟨W2, hW2⟩ : ∃ W2, wr.alloc (.cells #[.int .i64 (xa : Int), .int .i64 (xw : Int), .pointer (some ⟨hb, xj, none⟩)] 120) = W2 := ⟨_, rfl⟩
          rw [hW2] at P1 R1 y0 y1 y2 ⊢
          clear hW2 k0 k1 k2
          obtain ⟨A6, c7, hcut, hK6, hc7⟩ := HSUB.out W2 P1.out.bel xa xw hfit
          have hby6 := sub_byte HBY.out xa xw
          generalize hsl : sub l xa xw = s6 at hcut hK6 hc7 hby6
          have HSL := Aside0.mk hsl
          have hcall := num_Get.at_ A6 c7 s6 W2.drew (Kd.C_below hK6 (below_drew (Below.refl _ _))) hc7 hby6
          obtain ⟨gv, gb⟩ : ∃ gv, (getN s6).1 = gv := ⟨_, rfl⟩
          rw [gb] at hcall
          have HGB := Aside0.mk gb
          obtain ⟨u, hu⟩ : ∃ u, cur[xj]? = some u := ⟨cur[xj]'(by rw [P1.out.len]; exact hj), Array.getElem?_eq_getElem _⟩
          have hwr : IntKind.i64.wrap ((xa : Int) + (xw : Int)) = (xa : Int) + (xw : Int) := by rw [i64_w]; unfold wrap64; omega
          clear hK6 hsl gb
          go_region_held3 (fun w' => w'.cell? ⟨wr.heap.size, 0, none⟩ = some (.int .i64 (xa : Int)) ∧ w'.cell? ⟨wr.heap.size, 1, none⟩ = some (.int .i64 (xw : Int)) ∧ w'.cell? ⟨wr.heap.size, 2, none⟩ = some (.pointer (some ⟨hb, xj, none⟩))) (first | go_keep | exact ⟨(cell_far (show wr.heap.size ≠ hb by omega) _).trans z0, (cell_far (show wr.heap.size ≠ hb by omega) _).trans z1, (cell_far (show wr.heap.size ≠ hb by omega) _).trans z2⟩) (first | (go_at_call 94; refine hcall.mono ?_; rintro e w8 ⟨rfl, hb8⟩; have P3 := Aside0.mk ((P1.out.below (below_drew (Below.refl _ _))).below hb8); have R3 := Aside0.mk (Kd.R_below (Kd.R_drew R1.out) hb8); have z0 := pw_cell_below hb8 y0; have z1 := pw_cell_below hb8 y1; have z2 := pw_cell_below hb8 y2; have hfz := blk_frozen P3.out.hd xj; have hcj := (blk_cell P3.out.hd xj).trans hu))
          go_wp2_with (fail)
          go_roundw
          case rel =>
            refine ⟨k + 1, by go_num, by omega, ⟨?_⟩, ⟨?_⟩⟩
            · rw [HTK.out]
              unfold getSetN
              simp only [HSL.out, HGB.out]
              exact P3.out.set xj _
            · exact R_turn R3.out (Turn.setCell (S := fun k => k = hb) _ _ rfl) (Nat.lt_succ_self hb)
          case measure => simp [intOf]; omega
        · obtain rfl : k = ns.length := by omega
          have PK2 := Aside0.mk (by have := PK.out; rw [List.take_length, ← HCS1.out, HCS.out] at this; exact this)
          clear PK HR hwm hnm
          have HEQ := Aside0.mk (show ∀ (A9 : Option Addr) (c9 : Nat) (w9 : World), Below w.heap.size w w9 → Kd.C (Kd.int .u8) w9 A9 pl.length pl → pl.length ≤ c9 → Calls Tryz.prog 92 #[.slice A9 pl.length c9, .slice (some ad) 512 c] w9 fun e w' => e = .returned (.bool (decide (pl = l))) ∧ Drawn0 w9 w' from fun A9 c9 w9 hb h1 h2 => by
            have h3 := bytes_Equal.calls A9 c9 pl (some ad) c l (decide (pl = l)) w9 h1 h2 (by rw [HLEN.out]; exact Kd.C_below HC.out hb) (by rw [HLEN.out]; exact hc) (by unfold bytes_Equal.f; rw [str_beq HPB.out HBY.out])
            rw [HLEN.out] at h3
            exact h3)
          obtain ⟨f0, f1, f2, f3, f4, f5, f6, f7, f8, f9, f10⟩ := G
          simp only [hdCells] at PK2 HPUT
          have x0 := (blk_cell PK2.out.hd 0).trans (show _ = some (Value.string f0) from rfl)
          have x1 := (blk_cell PK2.out.hd 1).trans (show _ = some (Value.string f1) from rfl)
          have x2 := (blk_cell PK2.out.hd 2).trans (show _ = some (Value.string f2) from rfl)
          have x3 := (blk_cell PK2.out.hd 3).trans (show _ = some (Value.int .i64 f3) from rfl)
          have x4 := (blk_cell PK2.out.hd 4).trans (show _ = some (Value.int .i64 f4) from rfl)
          have x5 := (blk_cell PK2.out.hd 5).trans (show _ = some (Value.int .i64 f5) from rfl)
          have x6 := (blk_cell PK2.out.hd 6).trans (show _ = some (Value.int .i64 f6) from rfl)
          have x7 := (blk_cell PK2.out.hd 7).trans (show _ = some (Value.int .i64 f7) from rfl)
          have x8 := (blk_cell PK2.out.hd 8).trans (show _ = some (Value.int .u8 f8) from rfl)
          have x9 := (blk_cell PK2.out.hd 9).trans (show _ = some (Value.int .i64 f9) from rfl)
          have x10 := (blk_cell PK2.out.hd 10).trans (show _ = some (Value.int .i64 f10) from rfl)
          cases pb with
          | false =>
            go_wp2_with (first | (go_at_call 53; refine (HPUT.out _).mono ?_; rintro e w9 ⟨A9, c9, rfl, HC9, HL9, hb9⟩; have P9 := Aside0.mk (PK2.out.below hb9); have xx0 := (blk_cell P9.out.hd 0).trans (show _ = some (Value.string f0) from rfl); have z0 := (blk_cell P9.out.out 0).trans (show _ = some (Value.string ⟨#[]⟩) from rfl); have fz0 := blk_frozen P9.out.out 0; have xx1 := (blk_cell P9.out.hd 1).trans (show _ = some (Value.string f1) from rfl); have z1 := (blk_cell P9.out.out 1).trans (show _ = some (Value.string ⟨#[]⟩) from rfl); have fz1 := blk_frozen P9.out.out 1; have xx2 := (blk_cell P9.out.hd 2).trans (show _ = some (Value.string f2) from rfl); have z2 := (blk_cell P9.out.out 2).trans (show _ = some (Value.string ⟨#[]⟩) from rfl); have fz2 := blk_frozen P9.out.out 2; have xx3 := (blk_cell P9.out.hd 3).trans (show _ = some (Value.int .i64 f3) from rfl); have z3 := (blk_cell P9.out.out 3).trans (show _ = some (Value.int .i64 0) from rfl); have fz3 := blk_frozen P9.out.out 3; have xx4 := (blk_cell P9.out.hd 4).trans (show _ = some (Value.int .i64 f4) from rfl); have z4 := (blk_cell P9.out.out 4).trans (show _ = some (Value.int .i64 0) from rfl); have fz4 := blk_frozen P9.out.out 4; have xx5 := (blk_cell P9.out.hd 5).trans (show _ = some (Value.int .i64 f5) from rfl); have z5 := (blk_cell P9.out.out 5).trans (show _ = some (Value.int .i64 0) from rfl); have fz5 := blk_frozen P9.out.out 5; have xx6 := (blk_cell P9.out.hd 6).trans (show _ = some (Value.int .i64 f6) from rfl); have z6 := (blk_cell P9.out.out 6).trans (show _ = some (Value.int .i64 0) from rfl); have fz6 := blk_frozen P9.out.out 6; have xx7 := (blk_cell P9.out.hd 7).trans (show _ = some (Value.int .i64 f7) from rfl); have z7 := (blk_cell P9.out.out 7).trans (show _ = some (Value.int .i64 0) from rfl); have fz7 := blk_frozen P9.out.out 7; have xx8 := (blk_cell P9.out.hd 8).trans (show _ = some (Value.int .u8 f8) from rfl); have z8 := (blk_cell P9.out.out 8).trans (show _ = some (Value.int .u8 0) from rfl); have fz8 := blk_frozen P9.out.out 8; have xx9 := (blk_cell P9.out.hd 9).trans (show _ = some (Value.int .i64 f9) from rfl); have z9 := (blk_cell P9.out.out 9).trans (show _ = some (Value.int .i64 0) from rfl); have fz9 := blk_frozen P9.out.out 9; have xx10 := (blk_cell P9.out.hd 10).trans (show _ = some (Value.int .i64 f10) from rfl); have z10 := (blk_cell P9.out.out 10).trans (show _ = some (Value.int .i64 0) from rfl); have fz10 := blk_frozen P9.out.out 10))
            refine bodyPost_ret (results_list (rs := [.cell 2 83, .tmp 3]) rfl (by simp) (.cell w.heap.size 83 (hdCells hd0).toArray (0, 0) _ rfl (store_hd P9.out.out rfl _ _ _ _ _ _ _ _ _ _ _) Tryz.underlying83 rfl hd_size (.tmp .nil))) rfl ?_
            rw [HRR.out, if_neg (by simp)]
            exact ⟨rfl, below_hd P9.out.bel (Nat.le_refl _) _ _ _ _ _ _ _ _ _ _ _⟩
          | true =>
            by_cases hpl : pl = l
            · have hdq := decide_eq_true hpl
              have HPL := Aside0.mk hpl
              have HEQ2 := HEQ.out
              rw [hdq] at HEQ2
              have HEQ := Aside0.mk HEQ2
              clear hpl hdq HEQ2
              go_wp2_with (first | (go_at_call 53; refine (HPUT.out _).mono ?_; rintro e w9 ⟨A9, c9, rfl, HC9, HL9, hb9⟩; have P9 := Aside0.mk (PK2.out.below hb9); have xx0 := (blk_cell P9.out.hd 0).trans (show _ = some (Value.string f0) from rfl); have z0 := (blk_cell P9.out.out 0).trans (show _ = some (Value.string ⟨#[]⟩) from rfl); have fz0 := blk_frozen P9.out.out 0; have xx1 := (blk_cell P9.out.hd 1).trans (show _ = some (Value.string f1) from rfl); have z1 := (blk_cell P9.out.out 1).trans (show _ = some (Value.string ⟨#[]⟩) from rfl); have fz1 := blk_frozen P9.out.out 1; have xx2 := (blk_cell P9.out.hd 2).trans (show _ = some (Value.string f2) from rfl); have z2 := (blk_cell P9.out.out 2).trans (show _ = some (Value.string ⟨#[]⟩) from rfl); have fz2 := blk_frozen P9.out.out 2; have xx3 := (blk_cell P9.out.hd 3).trans (show _ = some (Value.int .i64 f3) from rfl); have z3 := (blk_cell P9.out.out 3).trans (show _ = some (Value.int .i64 0) from rfl); have fz3 := blk_frozen P9.out.out 3; have xx4 := (blk_cell P9.out.hd 4).trans (show _ = some (Value.int .i64 f4) from rfl); have z4 := (blk_cell P9.out.out 4).trans (show _ = some (Value.int .i64 0) from rfl); have fz4 := blk_frozen P9.out.out 4; have xx5 := (blk_cell P9.out.hd 5).trans (show _ = some (Value.int .i64 f5) from rfl); have z5 := (blk_cell P9.out.out 5).trans (show _ = some (Value.int .i64 0) from rfl); have fz5 := blk_frozen P9.out.out 5; have xx6 := (blk_cell P9.out.hd 6).trans (show _ = some (Value.int .i64 f6) from rfl); have z6 := (blk_cell P9.out.out 6).trans (show _ = some (Value.int .i64 0) from rfl); have fz6 := blk_frozen P9.out.out 6; have xx7 := (blk_cell P9.out.hd 7).trans (show _ = some (Value.int .i64 f7) from rfl); have z7 := (blk_cell P9.out.out 7).trans (show _ = some (Value.int .i64 0) from rfl); have fz7 := blk_frozen P9.out.out 7; have xx8 := (blk_cell P9.out.hd 8).trans (show _ = some (Value.int .u8 f8) from rfl); have z8 := (blk_cell P9.out.out 8).trans (show _ = some (Value.int .u8 0) from rfl); have fz8 := blk_frozen P9.out.out 8; have xx9 := (blk_cell P9.out.hd 9).trans (show _ = some (Value.int .i64 f9) from rfl); have z9 := (blk_cell P9.out.out 9).trans (show _ = some (Value.int .i64 0) from rfl); have fz9 := blk_frozen P9.out.out 9; have xx10 := (blk_cell P9.out.hd 10).trans (show _ = some (Value.int .i64 f10) from rfl); have z10 := (blk_cell P9.out.out 10).trans (show _ = some (Value.int .i64 0) from rfl); have fz10 := blk_frozen P9.out.out 10) | (go_at_call 92; refine (HEQ.out A9 c9 w9 P9.out.bel HC9.out HL9.out).mono ?_; rintro e w10 ⟨rfl, ⟨nd10, rfl⟩⟩))
              refine bodyPost_ret (results_list (rs := [.cell 2 83, .tmp 3]) rfl (by simp) (.cell w.heap.size 83 (hdCells ⟨f0, f1, f2, f3, f4, f5, f6, f7, f8, f9, f10⟩).toArray (0, 0) _ rfl (store_hd (blk_drewN P9.out.out nd10) rfl _ _ _ _ _ _ _ _ _ _ _) Tryz.underlying83 rfl hd_size (.tmp .nil))) rfl ?_
              rw [HRR.out, if_pos (by simp [HPL.out])]
              exact ⟨rfl, below_hd (pw_below_drewN P9.out.bel _) (Nat.le_refl _) _ _ _ _ _ _ _ _ _ _ _⟩
            · have hdq := decide_eq_false hpl
              have HPL := Aside0.mk hpl
              have HEQ2 := HEQ.out
              rw [hdq] at HEQ2
              have HEQ := Aside0.mk HEQ2
              clear hpl hdq HEQ2
              go_wp2_with (first | (go_at_call 53; refine (HPUT.out _).mono ?_; rintro e w9 ⟨A9, c9, rfl, HC9, HL9, hb9⟩; have P9 := Aside0.mk (PK2.out.below hb9); have xx0 := (blk_cell P9.out.hd 0).trans (show _ = some (Value.string f0) from rfl); have z0 := (blk_cell P9.out.out 0).trans (show _ = some (Value.string ⟨#[]⟩) from rfl); have fz0 := blk_frozen P9.out.out 0; have xx1 := (blk_cell P9.out.hd 1).trans (show _ = some (Value.string f1) from rfl); have z1 := (blk_cell P9.out.out 1).trans (show _ = some (Value.string ⟨#[]⟩) from rfl); have fz1 := blk_frozen P9.out.out 1; have xx2 := (blk_cell P9.out.hd 2).trans (show _ = some (Value.string f2) from rfl); have z2 := (blk_cell P9.out.out 2).trans (show _ = some (Value.string ⟨#[]⟩) from rfl); have fz2 := blk_frozen P9.out.out 2; have xx3 := (blk_cell P9.out.hd 3).trans (show _ = some (Value.int .i64 f3) from rfl); have z3 := (blk_cell P9.out.out 3).trans (show _ = some (Value.int .i64 0) from rfl); have fz3 := blk_frozen P9.out.out 3; have xx4 := (blk_cell P9.out.hd 4).trans (show _ = some (Value.int .i64 f4) from rfl); have z4 := (blk_cell P9.out.out 4).trans (show _ = some (Value.int .i64 0) from rfl); have fz4 := blk_frozen P9.out.out 4; have xx5 := (blk_cell P9.out.hd 5).trans (show _ = some (Value.int .i64 f5) from rfl); have z5 := (blk_cell P9.out.out 5).trans (show _ = some (Value.int .i64 0) from rfl); have fz5 := blk_frozen P9.out.out 5; have xx6 := (blk_cell P9.out.hd 6).trans (show _ = some (Value.int .i64 f6) from rfl); have z6 := (blk_cell P9.out.out 6).trans (show _ = some (Value.int .i64 0) from rfl); have fz6 := blk_frozen P9.out.out 6; have xx7 := (blk_cell P9.out.hd 7).trans (show _ = some (Value.int .i64 f7) from rfl); have z7 := (blk_cell P9.out.out 7).trans (show _ = some (Value.int .i64 0) from rfl); have fz7 := blk_frozen P9.out.out 7; have xx8 := (blk_cell P9.out.hd 8).trans (show _ = some (Value.int .u8 f8) from rfl); have z8 := (blk_cell P9.out.out 8).trans (show _ = some (Value.int .u8 0) from rfl); have fz8 := blk_frozen P9.out.out 8; have xx9 := (blk_cell P9.out.hd 9).trans (show _ = some (Value.int .i64 f9) from rfl); have z9 := (blk_cell P9.out.out 9).trans (show _ = some (Value.int .i64 0) from rfl); have fz9 := blk_frozen P9.out.out 9; have xx10 := (blk_cell P9.out.hd 10).trans (show _ = some (Value.int .i64 f10) from rfl); have z10 := (blk_cell P9.out.out 10).trans (show _ = some (Value.int .i64 0) from rfl); have fz10 := blk_frozen P9.out.out 10) | (go_at_call 92; refine (HEQ.out A9 c9 w9 P9.out.bel HC9.out HL9.out).mono ?_; rintro e w10 ⟨rfl, ⟨nd10, rfl⟩⟩))
              refine bodyPost_ret (results_list (rs := [.cell 2 83, .tmp 3]) rfl (by simp) (.cell w.heap.size 83 (hdCells hd0).toArray (0, 0) _ rfl (store_hd (blk_drewN P9.out.out nd10) rfl _ _ _ _ _ _ _ _ _ _ _) Tryz.underlying83 rfl hd_size (.tmp .nil))) rfl ?_
              rw [HRR.out, if_neg (by simp [HPL.out])]
              exact ⟨rfl, below_hd (pw_below_drewN P9.out.bel _) (Nat.le_refl _) _ _ _ _ _ _ _ _ _ _ _⟩
theorem getL_le (b : Bool) : ∀ (l : List Int) (n m : Int), n ≤ 9223372036854775807 → getL b l n = some m → m ≤ 9223372036854775807
  | [], n, m, h, e => by obtain rfl := Option.some.inj e; exact h
  | c :: r, n, m, h, e => by
    rw [getL] at e
    split at e
    · cases e
    · exact getL_le b r _ m (by unfold wrap64; omega) e
theorem getN_le (l : List Int) : (getN l).1 ≤ 9223372036854775807 := by
  unfold getN
  by_cases c : l.length < 2 ∨ 20 < l.length
  · rw [if_pos c]; decide
  · rw [if_neg c]
    cases hv : getV l with
    | none => show (0 : Int) ≤ _; decide
    | some n =>
      have hn : n ≤ 9223372036854775807 := by
        unfold getV at hv
        split at hv
        · exact getL_le _ _ _ _ (by decide) hv
        · exact getL_le _ _ _ _ (by decide) hv
      simp only
      split
      · exact hn
      · show (0 : Int) ≤ _; decide
theorem guess_in {l : List Int} (hby : ∀ x ∈ l, 0 ≤ x ∧ x ≤ 255) : hdIn (guess l) := by
  have h8 : 0 ≤ l.getD 156 0 ∧ l.getD 156 0 ≤ 255 := by
    by_cases c : 156 < l.length
    · rw [getD_eq c]; exact hby _ (List.getElem_mem c)
    · rw [List.getD_eq_getElem?_getD, List.getElem?_eq_none (by omega)]; decide
  unfold guess
  refine ⟨h8, getN_le _, getN_le _, getN_le _, getN_le _, getN_le _, ?_, ?_⟩
  · simp only; split
    · exact getN_le _
    · decide
  · simp only; split
    · exact getN_le _
    · decide
theorem head_Get.at_ (A : Option Addr) (c : Nat) (l : List Int) (w : World) (hC : Kd.C (Kd.int .u8) w A l.length l) (hc : l.length ≤ c) (hby : ∀ x ∈ l, 0 ≤ x ∧ x ≤ 255) :
    Calls Tryz.prog 59 #[.slice A l.length c] w fun e w' => e = .returned (.tuple #[.agg (hdCells (headGet l).1).toArray, .int .i64 (headGet l).2]) ∧ Below w.heap.size w w' := by
  unfold headGet
  by_cases c1 : l.length ≠ 512
  · rw [if_pos c1]
    exact head_Get.short A c l w c1 hC.2.1
  rw [if_neg c1]
  have h : l.length = 512 := Classical.not_not.1 c1
  by_cases c2 : l.all (fun c => c == 0) = true
  · rw [if_pos c2]
    exact head_Get.zero A c l w hC hc h c2
  rw [if_neg c2]
  have h2 : l.all (fun c => c == 0) = false := by simpa using c2
  by_cases c3 : sub l 148 8 ≠ signL (sumL l 0)
  · rw [if_pos c3]
    exact head_Get.sum A c l w hC hc hby h h2 c3
  rw [if_neg c3]
  exact head_Get.main A c l w hC hc hby h h2 (Classical.not_not.1 c3) (guess_in hby) _ rfl
end Go.Proofs.YtpedagpcblnnhaaGreat.X
