import Derived.Test.YtddjnicmpgbcgaaXK
import Derived.Test.YtddjnicmpgbcgaaXGnum
import Derived.Test.YtddjnicmpgbcgaaXGstrings
import Derived.Test.YtddjnicmpgbcgaaXheadwords
import Derived.Test.YtddjnicmpgbcgaaYConv
import Derived.BigQuiet
import Derived.Deep.QuietTactic
import Derived.Deep.RegionHeld3
import Derived.Laws.EntriesVeiled
import Derived.RegionTactic
import Derived.WalkSpells
namespace Go.Proofs.Ytddjnicmpgbcgaa.X
open Go.RowKit Go.Proofs.YtddjnicmpgbcgaaW.PrintWords Go.Proofs.YtddjnicmpgbcgaaW.PrintLast Go.Proofs.YtddjnicmpgbcgaaW.PrintMore
attribute [local go_sem] max2_int min2_int max_two min_two max_three min_three max_four min_four
set_option linter.unusedVariables false
set_option linter.unusedSimpArgs false

open Go.Proofs.YtddjnicmpgbcgaaY
abbrev Hd := S71
def hdCells (h : Hd) : List Value := [.string h.f0, .string h.f1, .string h.f2, .int .i64 h.f3, .int .i64 h.f4, .int .i64 h.f5, .int .i64 h.f6, .int .i64 h.f7, .int .u8 h.f8, .int .i64 h.f9, .int .i64 h.f10]
/-- A header's texts: where each stands, how long it may be, its field. -/
def hdWords (h : Hd) : List (Int × Int × Nat × ByteArray) := [(0, 100, 0, h.f0), (157, 100, 2, h.f2)] ++ if h.f8 = 77 then [] else [(345, 155, 1, h.f1)]
def hdNumbers (h : Hd) : List (Int × Int × Nat × Int) := [(100, 8, 3, h.f3), (108, 8, 4, h.f4), (116, 8, 5, h.f5), (124, 12, 6, h.f6), (136, 12, 7, h.f7)] ++ if h.f8 = 77 then [(369, 12, 9, h.f9), (483, 12, 10, h.f10)] else []
theorem words_hd (b : Nat) (h : Hd) : wordsL b h.f8 = (hdWords h).map fun x => (x.1, x.2.1, ⟨b, x.2.2.1, none⟩) := by
  unfold wordsL hdWords
  split <;> rfl
theorem numbers_hd (b : Nat) (h : Hd) : numbersL b h.f8 = (hdNumbers h).map fun x => (x.1, x.2.1, ⟨b, x.2.2.1, none⟩) := by
  unfold numbersL hdNumbers
  split <;> rfl
theorem hdWords_cell (h : Hd) : ∀ x ∈ hdWords h, (hdCells h)[x.2.2.1]? = some (.string x.2.2.2) ∧ 100 ≤ x.2.1 ∧ x.2.1 ≤ 155 ∧ 0 ≤ x.1 ∧ x.1 ≤ 345 := by
  unfold hdWords
  intro x hx
  split at hx
  · simp only [List.append_nil, List.mem_cons, List.not_mem_nil, or_false] at hx
    rcases hx with rfl | rfl <;> exact ⟨rfl, by simp, by simp, by simp, by simp⟩
  · simp only [List.cons_append, List.nil_append, List.mem_cons, List.not_mem_nil, or_false] at hx
    rcases hx with rfl | rfl | rfl <;> exact ⟨rfl, by simp, by simp, by simp, by simp⟩
/-- Its numbers are a machine's. -/
def hdIn (h : Hd) : Prop := (0 ≤ h.f8 ∧ h.f8 ≤ 255) ∧ h.f3 ≤ 9223372036854775807 ∧ h.f4 ≤ 9223372036854775807 ∧ h.f5 ≤ 9223372036854775807 ∧ h.f6 ≤ 9223372036854775807 ∧ h.f7 ≤ 9223372036854775807 ∧ h.f9 ≤ 9223372036854775807 ∧ h.f10 ≤ 9223372036854775807
instance (h : Hd) : Decidable (hdIn h) := by unfold hdIn; exact inferInstance
theorem hdNumbers_cell (h : Hd) (hh : hdIn h) : ∀ x ∈ hdNumbers h, (hdCells h)[x.2.2.1]? = some (.int .i64 x.2.2.2) ∧ 8 ≤ x.2.1 ∧ x.2.1 ≤ 12 ∧ 0 ≤ x.1 ∧ x.1 ≤ 483 ∧ x.2.2.2 ≤ 9223372036854775807 := by
  obtain ⟨_, h3, h4, h5, h6, h7, h9, h10⟩ := hh
  unfold hdNumbers
  intro x hx
  split at hx
  · simp only [List.cons_append, List.nil_append, List.mem_cons, List.not_mem_nil, or_false] at hx
    rcases hx with rfl | rfl | rfl | rfl | rfl | rfl | rfl <;> exact ⟨rfl, by simp, by simp, by simp, by simp, by assumption⟩
  · simp only [List.append_nil, List.mem_cons, List.not_mem_nil, or_false] at hx
    rcases hx with rfl | rfl | rfl | rfl | rfl <;> exact ⟨rfl, by simp, by simp, by simp, by simp, by assumption⟩
def noNought (s : ByteArray) : Bool := decide (Lib.indexByte s.data.toList 0 < 0)
def wordOk (s : ByteArray) (wide : Int) : Bool := decide ((s.size : Int) ≤ wide) && noNought s
def typeOk (t : Int) : Bool := decide (0 ≤ Lib.indexByte [48, 49, 50, 53, 75, 76, 77, 86] t.toNat.toUInt8)
/-- Its name, its type, and what goes with that. -/
def hdA (h : Hd) : Bool := !(h.f0.toList == ([] : List UInt8)) && (typeOk h.f8 && (if h.f8 = 77 then h.f1.toList == ([] : List UInt8) else h.f9 == 0 && h.f10 == 0))
/-- May a header be? -/
def hdOk (h : Hd) : Bool := hdA h && ((hdWords h).all (fun x => wordOk x.2.2.2 x.2.1) && (hdNumbers h).all (fun x => (putN x.2.2.2 x.2.1).2))
theorem strings_IndexByte.q (s : ByteArray) (c : Int) (W : World) :
    Calls Try.prog 72 #[.string s, .int .u8 c] W fun e w' => e = .returned (.int .i64 (Lib.indexByte s.data.toList c.toNat.toUInt8)) ∧ ∃ n, w' = W.drewN n := by
  refine (strings_IndexByte.calls s c _ W rfl).mono ?_
  rintro e w' ⟨rfl, ⟨h⟩⟩
  exact ⟨rfl, h⟩
def head_May.f (a0 a1 a2 : ByteArray) (a3 a4 a5 a6 a7 a8 a9 a10 : Int) : Option Bool :=
  if hdIn ⟨a0, a1, a2, a3, a4, a5, a6, a7, a8, a9, a10⟩ then some (hdOk ⟨a0, a1, a2, a3, a4, a5, a6, a7, a8, a9, a10⟩) else none
theorem ix_neg {x : Int} {b : Bool} (h : decide (0 ≤ x) = b) : decide (x < 0) = !b := by
  subst h
  by_cases h : 0 ≤ x
  · rw [decide_eq_true h, decide_eq_false (by omega)]; rfl
  · rw [decide_eq_false h, decide_eq_true (by omega)]; rfl
theorem ne_of_beq {x y : Int} {b : Bool} (h : (x == y) = b) : (x != y) = !b := by rw [bne, h]
set_option maxHeartbeats 8000000 in
set_option maxRecDepth 100000 in
theorem head_May.first (h : Hd) (w : World) (h1 : hdA h = false) :
    Calls Try.prog 85 #[.agg (hdCells h).toArray] w fun e w' => e = .returned (.bool false) ∧ Below w.heap.size w w' := by
  obtain ⟨f0, f1, f2, f3, f4, f5, f6, f7, f8, f9, f10⟩ := h
  simp only [hdCells, hdA] at h1 ⊢
  have hq := fun (w : World) => strings_IndexByte.q (ByteArray.mk #[48, 49, 50, 53, 75, 76, 77, 86]) f8 w
  cases b0 : (f0.toList == ([] : List UInt8))
  · cases b1 : typeOk f8
    · have b1' := ix_neg b1
      clear h1 b1
      go_enter Try.func85, Try.ntmps85
      go_wp2_with (first | (go_at_call 72; refine (hq _).mono ?_; rintro e w' ⟨rfl, nd, rfl⟩))
      go_ret
      exact ⟨rfl, pw_below_drewN (below_alloc (Below.refl _ _) _) _⟩
    · have b1' := ix_neg b1
      rw [b0, b1] at h1
      clear b1
      by_cases c77 : f8 = 77
      · rw [if_pos c77] at h1
        have b2 : (f8 == 77) = true := beq_iff_eq.2 c77
        have b2' := ne_of_beq b2
        have b3 : (f1.toList == ([] : List UInt8)) = false := by simpa using h1
        clear h1 c77
        go_enter Try.func85, Try.ntmps85
        go_wp2_with (first | (go_at_call 72; refine (hq _).mono ?_; rintro e w' ⟨rfl, nd, rfl⟩))
        go_ret
        exact ⟨rfl, pw_below_drewN (below_alloc (Below.refl _ _) _) _⟩
      · rw [if_neg c77] at h1
        have b2 : (f8 == 77) = false := beq_eq_false_iff_ne.2 c77
        have b2' := ne_of_beq b2
        cases b4 : (f9 == 0)
        · have b4' := ne_of_beq b4
          clear h1 c77
          go_enter Try.func85, Try.ntmps85
          go_wp2_with (first | (go_at_call 72; refine (hq _).mono ?_; rintro e w' ⟨rfl, nd, rfl⟩))
          go_ret
          exact ⟨rfl, pw_below_drewN (below_alloc (Below.refl _ _) _) _⟩
        · have b4' := ne_of_beq b4
          rw [b4] at h1
          have b5 : (f10 == 0) = false := by simpa using h1
          have b5' := ne_of_beq b5
          clear h1 c77
          go_enter Try.func85, Try.ntmps85
          go_wp2_with (first | (go_at_call 72; refine (hq _).mono ?_; rintro e w' ⟨rfl, nd, rfl⟩))
          go_ret
          exact ⟨rfl, pw_below_drewN (below_alloc (Below.refl _ _) _) _⟩
  · clear h1
    go_enter Try.func85, Try.ntmps85
    go_wp2_with (fail)
    go_ret
    exact ⟨rfl, below_alloc (Below.refl _ _) _⟩
theorem kSpot_at {w : World} {base e : Nat} {ok : Nat → Prop} {v : Value} {l : List Spot} (h : Kd.R kSpot e w base ok v l) {k : Nat} (hk : k < l.length) :
    ∃ g c, v = .slice (some ⟨g, 0, none⟩) l.length c ∧ base ≤ g ∧ w.cell? ⟨g, k * 3, none⟩ = some (.int .i64 l[k].1) ∧ w.cell? ⟨g, k * 3 + 1, none⟩ = some (.int .i64 l[k].2.1) ∧ w.cell? ⟨g, k * 3 + 2, none⟩ = some (.pointer (some l[k].2.2)) := by
  obtain ⟨g, c, hv, hb, _, _⟩ := Kd.R_form h (by omega)
  subst hv
  obtain ⟨ad, cs, hA, _, hK, hc⟩ := Kd.C_get (Kd.R_reads' h).2.2 l[k] (k : Int) (by omega) (by omega)
  injection hA with hA
  subst hA
  have e : l.getD (k : Int).toNat l[k] = l[k] := by simp [List.getD_eq_getElem?_getD, List.getElem?_eq_getElem hk]
  rw [e] at hK
  have hcs : cs = spotV l[k] := hK
  subst hcs
  have h0 := hc 0 _ rfl
  have h1 := hc 1 _ rfl
  have h2 := hc 2 _ rfl
  simp only [Int.toNat_natCast, add_plain, Nat.add_zero, show kSpot.sz = 3 from rfl] at h0 h1 h2
  exact ⟨g, c, rfl, hb, h0, h1, h2⟩
theorem box_cell {w w1 : World} {b t : Nat} {cs : Array Value} (h : w.heap[b]? = some (.cells cs t (0, 0))) (hb : Below w.heap.size w w1) {j : Nat} {v : Value} (hv : cs[j]? = some v) : w1.cell? ⟨b, j, none⟩ = some v := (blk_cell (blk_below h hb) j).trans hv
set_option maxHeartbeats 8000000 in
set_option maxRecDepth 100000 in
theorem head_May.pass (h : Hd) (w : World) (hh : hdIn h) (h1 : hdA h = true) :
    Calls Try.prog 85 #[.agg (hdCells h).toArray] w fun e w' => e = .returned (.bool ((hdWords h).all (fun x => wordOk x.2.2.2 x.2.1) && (hdNumbers h).all (fun x => (putN x.2.2.2 x.2.1).2))) ∧ Below w.heap.size w w' := by
  have hW : ∀ x ∈ hdWords h, (hdCells h)[x.2.2.1]? = some (.string x.2.2.2) ∧ 100 ≤ x.2.1 ∧ x.2.1 ≤ 155 ∧ 0 ≤ x.1 ∧ x.1 ≤ 345 := hdWords_cell h
  have hN := hdNumbers_cell h hh
  obtain ⟨rr, hrr⟩ : ∃ rr, ((hdWords h).all (fun x => wordOk x.2.2.2 x.2.1) && (hdNumbers h).all (fun x => (putN x.2.2.2 x.2.1).2)) = rr := ⟨_, rfl⟩
  rw [hrr]
  have HRR := Aside0.mk hrr
  have hwl := words_hd w.heap.size h
  have hnl := numbers_hd w.heap.size h
  have hcw := fun (W : World) (hb : W.heap[w.heap.size]? = some (.cells (hdCells h).toArray 71 (0, 0))) => head_words.at_ w.heap.size (hdCells h).toArray h.f8 rfl W hb
  have hcn := fun (W : World) (hb : W.heap[w.heap.size]? = some (.cells (hdCells h).toArray 71 (0, 0))) => head_numbers.at_ w.heap.size (hdCells h).toArray h.f8 rfl W hb
  rw [hwl] at hcw
  rw [hnl] at hcn
  have hwlen : (hdWords h).length ≤ 3 := by unfold hdWords; split <;> simp
  have hnlen : (hdNumbers h).length ≤ 7 := by unfold hdNumbers; split <;> simp
  generalize hdWords h = ws at *
  generalize hdNumbers h = ns at *
  have hcw2 : ∀ (W : World) (hb : W.heap[w.heap.size]? = some (.cells (hdCells h).toArray 71 (0, 0))), Calls Try.prog 86 #[.pointer (some ⟨w.heap.size, 0, none⟩)] W fun e w' => ∃ A c, e = .returned (.slice A ws.length c) ∧ Kd.R kSpot 93 w' W.heap.size (fun _ => True) (.slice A ws.length c) (ws.map fun x => (x.1, x.2.1, ⟨w.heap.size, x.2.2.1, none⟩)) ∧ Below W.heap.size W w' := fun W hb => (hcw W hb).mono (by
    rintro e w' ⟨v, rfl, hR, hB⟩
    obtain ⟨A, c, hv⟩ := Kd.R_slice hR
    rw [List.length_map] at hv
    subst hv
    exact ⟨A, c, rfl, hR, hB⟩)
  have hcn2 : ∀ (W : World) (hb : W.heap[w.heap.size]? = some (.cells (hdCells h).toArray 71 (0, 0))), Calls Try.prog 88 #[.pointer (some ⟨w.heap.size, 0, none⟩)] W fun e w' => ∃ A c, e = .returned (.slice A ns.length c) ∧ Kd.R kSpot 99 w' W.heap.size (fun _ => True) (.slice A ns.length c) (ns.map fun x => (x.1, x.2.1, ⟨w.heap.size, x.2.2.1, none⟩)) ∧ Below W.heap.size W w' := fun W hb => (hcn W hb).mono (by
    rintro e w' ⟨v, rfl, hR, hB⟩
    obtain ⟨A, c, hv⟩ := Kd.R_slice hR
    rw [List.length_map] at hv
    subst hv
    exact ⟨A, c, rfl, hR, hB⟩)
  have HCW := Aside0.mk hcw2
  have HCN := Aside0.mk hcn2
  have HW := Aside0.mk hW
  have HN := Aside0.mk hN
  have HBX := Aside0.mk (heap_alloc_new w (.cells (hdCells h).toArray 71))
  have HB0 := Aside0.mk (below_alloc (Below.refl w.heap.size w) (.cells (hdCells h).toArray 71))
  obtain ⟨f0, f1, f2, f3, f4, f5, f6, f7, f8, f9, f10⟩ := h
  clear hh hrr hwl hnl hcw hcn hcw2 hcn2 hW hN
  have b0 : (f0.toList == ([] : List UInt8)) = false := by
    unfold hdA at h1
    simp only [Bool.and_eq_true, Bool.not_eq_true'] at h1
    exact h1.1
  have b1 : typeOk f8 = true := by
    unfold hdA at h1
    simp only [Bool.and_eq_true, Bool.not_eq_true'] at h1
    exact h1.2.1
  have b1' := ix_neg b1
  have hq := fun (w : World) => strings_IndexByte.q (ByteArray.mk #[48, 49, 50, 53, 75, 76, 77, 86]) f8 w
  have hcase : ((f8 == 77) = true ∧ (f1.toList == ([] : List UInt8)) = true) ∨ ((f8 == 77) = false ∧ (f9 == 0) = true ∧ (f10 == 0) = true) := by
    unfold hdA at h1
    rw [b0, b1] at h1
    by_cases c : f8 = 77
    · rw [if_pos c] at h1
      exact .inl ⟨beq_iff_eq.2 c, by simpa using h1⟩
    · rw [if_neg c] at h1
      exact .inr ⟨beq_eq_false_iff_ne.2 c, by simpa using h1⟩
  simp only [hdCells] at HBX HB0 HCW HCN ⊢
  clear h1 b1
  rcases hcase with ⟨b2, b3⟩ | ⟨b2, b4, b5⟩
  all_goals
    have b2' := ne_of_beq b2
    try have b4' := ne_of_beq b4
    try have b5' := ne_of_beq b5
    go_enter Try.func85, Try.ntmps85
    go_wp2_with (first | (go_at_call 72; refine (hq _).mono ?_; rintro e w' ⟨rfl, nd, rfl⟩) | (go_at_call 86; refine (HCW.out _ (by exact HBX.out)).mono ?_; rintro e w1 ⟨A1, c1, rfl, hR, hb1⟩))
    have HB1 := Aside0.mk (below_then (pw_below_drewN HB0.out nd) (by simp) hb1)
    have HBX1 := Aside0.mk (blk_below (blk_drewN HBX.out nd) hb1)
    have HR1 := Aside0.mk (Kd.R_lower (base' := w.heap.size + 1) hR (by simp))
    clear hb1 hR
    go_loopw [43] (fun v43 wr => ∃ k : Nat, v43 = .int .i64 k ∧ k ≤ ws.length ∧ Aside0 ((ws.take k).all (fun x => wordOk x.2.2.2 x.2.1) = true) ∧ Aside0 (Below w.heap.size w wr) ∧ Aside0 (wr.heap[w.heap.size]? = some (.cells (hdCells ⟨f0, f1, f2, f3, f4, f5, f6, f7, f8, f9, f10⟩).toArray 71 (0, 0))) ∧ Aside0 (Kd.R kSpot 93 wr (w.heap.size + 1) (fun _ => True) (.slice A1 ws.length c1) (ws.map fun x => (x.1, x.2.1, ⟨w.heap.size, x.2.2.1, none⟩)))) (fun v43 _ => ws.length - (intOf v43).toNat)
    case atStart => exact ⟨0, rfl, Nat.zero_le _, ⟨by simp⟩, HB1, HBX1, HR1⟩
    case round =>
      obtain ⟨k, rfl, hk, HP, HB, HX, HR⟩ := hrel
      clear HB1 HBX1 HR1 HB0 HBX
      by_cases hlt : k < ws.length
      · obtain ⟨g, c, hv, hgb, k0, k1, k2⟩ := kSpot_at HR.out (k := k) (by rw [List.length_map]; exact hlt)
        rw [List.length_map] at hv
        injection hv with e1 e2 e3
        subst e1 e3
        clear e2
        simp only [List.getElem_map] at k0 k1 k2
        obtain ⟨hcell, hx1, hx2, hx3, hx4⟩ := HW.out ws[k] (List.getElem_mem hlt)
        have htk : ws.take (k + 1) = ws.take k ++ [ws[k]] := List.take_succ_eq_append_getElem hlt
        have hdr : ws = ws.take k ++ ws[k] :: ws.drop (k + 1) := by rw [← List.drop_eq_getElem_cons hlt]; exact (List.take_append_drop k ws).symm
        generalize ws[k] = x at *
        obtain ⟨xa, xw, xj, xs⟩ := x
        simp only at k0 k1 k2 hcell hx1 hx2 hx3 hx4
        have hxc := (blk_cell HX.out xj).trans (by simpa using hcell)
        have hqq := fun (w : World) (n : Nat) => Calls.quiet_of (strings_IndexByte.q xs 0 (w.drewN n))
        have HTK := Aside0.mk htk
        have HDR := Aside0.mk hdr
        have hlt2 : (k : Int) < (ws.length : Int) := by omega
        have hk0 : (0 : Int) ≤ (k : Int) := by omega
        clear htk hdr hx1 hx3 hx4
        have hne : w.heap.size ≠ wr.heap.size := by have := blk_lt HX.out; omega
        have hltb : w.heap.size < wr.heap.size := blk_lt HX.out
        have hBn := HB.out.alloc HB.out.size (.cells #[.int .i64 xa, .int .i64 xw, .pointer (some ⟨w.heap.size, xj, none⟩)] 93)
        have hRn := Kd.R_alloc HR.out (.cells #[.int .i64 xa, .int .i64 xw, .pointer (some ⟨w.heap.size, xj, none⟩)] 93)
        have hXn := blk_alloc HX.out (.cells #[.int .i64 xa, .int .i64 xw, .pointer (some ⟨w.heap.size, xj, none⟩)] 93)
        have y0 := blk_cell (heap_alloc_new wr (.cells #[.int .i64 xa, .int .i64 xw, .pointer (some ⟨w.heap.size, xj, none⟩)] 93)) 0
        have y1 := blk_cell (heap_alloc_new wr (.cells #[.int .i64 xa, .int .i64 xw, .pointer (some ⟨w.heap.size, xj, none⟩)] 93)) 1
        have y2 := blk_cell (heap_alloc_new wr (.cells #[.int .i64 xa, .int .i64 xw, .pointer (some ⟨w.heap.size, xj, none⟩)] 93)) 2
        simp only [List.getElem?_toArray, List.getElem?_cons_succ, List.getElem?_cons_zero] at y0 y1 y2
        have y3 := (blk_cell hXn xj).trans (by simpa using hcell)
        have HBN := Aside0.mk hBn
        have HRN := Aside0.mk hRn
        have HXN := Aside0.mk hXn
        clear hBn hRn hXn hxc
        go_wp2_with (fail)
        obtain ⟨W2, hW2⟩ : ∃ W2, wr.alloc (.cells #[.int .i64 xa, .int .i64 xw, .pointer (some ⟨w.heap.size, xj, none⟩)] 93) = W2 := ⟨_, rfl⟩
        rw [hW2] at HBN HRN HXN y0 y1 y2 y3 ⊢
        clear hW2
        by_cases hsz : (xs.size : Int) > xw
        · have hszb := decide_eq_true hsz
          have HOK := Aside0.mk (show wordOk xs xw = false by unfold wordOk; rw [decide_eq_false (by omega)]; rfl)
          clear hsz
          go_quiet (fail)
          go_wp2_with (fail)
          go_ret
          refine ⟨?_, pw_below_drewN HBN.out _⟩
          have : ws.all (fun x => wordOk x.2.2.2 x.2.1) = false := by rw [HDR.out, List.all_append, List.all_cons, HOK.out]; simp
          have h3 := HRR.out
          rw [this, Bool.false_and] at h3
          rw [← h3]
          rfl
        · have hszb := decide_eq_false hsz
          cases hno : noNought xs
          · have HOK := Aside0.mk (show wordOk xs xw = false by unfold wordOk; rw [hno, Bool.and_false])
            have hge : decide (Lib.indexByte xs.data.toList 0 ≥ 0) = true := by
              unfold noNought at hno
              exact decide_eq_true (by have := of_decide_eq_false hno; omega)
            clear hsz hno
            go_quiet ((go_at_call 72; exact hqq _ _))
            go_wp2_with (fail)
            go_ret
            refine ⟨?_, pw_below_drewN HBN.out _⟩
            have : ws.all (fun x => wordOk x.2.2.2 x.2.1) = false := by rw [HDR.out, List.all_append, List.all_cons, HOK.out]; simp
            have h3 := HRR.out
            rw [this, Bool.false_and] at h3
            rw [← h3]
            rfl
          · have HOK := Aside0.mk (show wordOk xs xw = true by unfold wordOk; rw [hno, decide_eq_true (by omega)]; rfl)
            have hge : decide (Lib.indexByte xs.data.toList 0 ≥ 0) = false := by
              unfold noNought at hno
              exact decide_eq_false (by have := of_decide_eq_true hno; omega)
            clear hsz hno
            go_quiet ((go_at_call 72; exact hqq _ _))
            go_wp2_with (fail)
            go_roundw
            case rel => exact ⟨k + 1, by go_num, by omega, ⟨by rw [HTK.out, List.all_append, HP.out, List.all_cons, HOK.out]; rfl⟩, ⟨pw_below_drewN HBN.out _⟩, ⟨blk_drewN HXN.out _⟩, ⟨Kd.R_drewN HRN.out _⟩⟩
            case measure => simp [intOf]; omega
      · obtain rfl : k = ws.length := by omega
        have hwsok : ws.all (fun x => wordOk x.2.2.2 x.2.1) = true := by have := HP.out; rwa [List.take_length] at this
        have HWS := Aside0.mk hwsok
        clear hwsok
        go_wp2_with (first | (go_at_call 88; refine (HCN.out _ (by exact HX.out)).mono ?_; rintro e w2 ⟨A2, c2, rfl, hR2, hb2⟩))
        have HB2 := Aside0.mk (below_then HB.out HB.out.size hb2)
        have HBX2 := Aside0.mk (blk_below HX.out hb2)
        have HR2 := Aside0.mk (Kd.R_lower (base' := w.heap.size + 1) hR2 (by have := blk_lt HX.out; omega))
        clear hb2 hR2 HB HX HR HP
        obtain ⟨wo, hwo⟩ : ∃ wo : World, wo = wr := ⟨_, rfl⟩
        go_loopw [66] (fun v66 wr => ∃ k : Nat, v66 = .int .i64 k ∧ k ≤ ns.length ∧ Aside0 ((ns.take k).all (fun x => (putN x.2.2.2 x.2.1).2) = true) ∧ Aside0 (Below w.heap.size w wr) ∧ Aside0 (wr.heap[w.heap.size]? = some (.cells (hdCells ⟨f0, f1, f2, f3, f4, f5, f6, f7, f8, f9, f10⟩).toArray 71 (0, 0))) ∧ Aside0 (Kd.R kSpot 99 wr (w.heap.size + 1) (fun _ => True) (.slice A2 ns.length c2) (ns.map fun x => (x.1, x.2.1, ⟨w.heap.size, x.2.2.1, none⟩)))) (fun v66 _ => ns.length - (intOf v66).toNat)
        case atStart => exact ⟨0, rfl, Nat.zero_le _, ⟨by simp⟩, HB2, HBX2, HR2⟩
        case round =>
          clear hwo
          obtain ⟨k, rfl, hk, HP, HB, HX, HR⟩ := hrel
          clear HB2 HBX2 HR2
          by_cases hlt : k < ns.length
          · obtain ⟨g, c, hv, hgb, k0, k1, k2⟩ := kSpot_at HR.out (k := k) (by rw [List.length_map]; exact hlt)
            rw [List.length_map] at hv
            injection hv with e1 e2 e3
            subst e1 e3
            clear e2
            simp only [List.getElem_map] at k0 k1 k2
            obtain ⟨hcell, hx1, hx2, hx3, hx4, hx5⟩ := HN.out ns[k] (List.getElem_mem hlt)
            have htk : ns.take (k + 1) = ns.take k ++ [ns[k]] := List.take_succ_eq_append_getElem hlt
            have hdr : ns = ns.take k ++ ns[k] :: ns.drop (k + 1) := by rw [← List.drop_eq_getElem_cons hlt]; exact (List.take_append_drop k ns).symm
            generalize ns[k] = x at *
            obtain ⟨xa, xw, xj, xn⟩ := x
            simp only at k0 k1 k2 hcell hx1 hx2 hx3 hx4 hx5
            obtain ⟨pl, pb, hput⟩ : ∃ l b, putN xn xw = (l, b) := ⟨_, _, rfl⟩
            have HPUT := Aside0.mk hput
            have HTK := Aside0.mk htk
            have HDR := Aside0.mk hdr
            have hlt2 : (k : Int) < (ns.length : Int) := by omega
            have hk0 : (0 : Int) ≤ (k : Int) := by omega
            have hltb : w.heap.size < wr.heap.size := blk_lt HX.out
            clear htk hdr hx1 hx3 hx4 hput
            have hBn := HB.out.alloc HB.out.size (.cells #[.int .i64 xa, .int .i64 xw, .pointer (some ⟨w.heap.size, xj, none⟩)] 99)
            have hRn := Kd.R_alloc HR.out (.cells #[.int .i64 xa, .int .i64 xw, .pointer (some ⟨w.heap.size, xj, none⟩)] 99)
            have hXn := blk_alloc HX.out (.cells #[.int .i64 xa, .int .i64 xw, .pointer (some ⟨w.heap.size, xj, none⟩)] 99)
            have y1 := blk_cell (heap_alloc_new wr (.cells #[.int .i64 xa, .int .i64 xw, .pointer (some ⟨w.heap.size, xj, none⟩)] 99)) 1
            have y2 := blk_cell (heap_alloc_new wr (.cells #[.int .i64 xa, .int .i64 xw, .pointer (some ⟨w.heap.size, xj, none⟩)] 99)) 2
            simp only [List.getElem?_toArray, List.getElem?_cons_succ, List.getElem?_cons_zero] at y1 y2
            have y3 := (blk_cell hXn xj).trans (by simpa using hcell)
            have HBN := Aside0.mk hBn
            have HRN := Aside0.mk hRn
            have HXN := Aside0.mk hXn
            clear hBn hRn hXn
            go_wp2_with (fail)
            obtain ⟨W2, hW2⟩ : ∃ W2, wr.alloc (.cells #[.int .i64 xa, .int .i64 xw, .pointer (some ⟨w.heap.size, xj, none⟩)] 99) = W2 := ⟨_, rfl⟩
            rw [hW2] at HBN HRN HXN y1 y2 y3 ⊢
            clear hW2 HB HX HR k0 k1 k2
            go_region_held3 (fun w' => w'.cell? ⟨wr.heap.size, 1, none⟩ = some (.int .i64 xw) ∧ w'.cell? ⟨wr.heap.size, 2, none⟩ = some (.pointer (some ⟨w.heap.size, xj, none⟩)) ∧ w'.cell? ⟨w.heap.size, xj, none⟩ = some (.int .i64 xn)) (first | go_keep | skip) (first | (go_at_call 89; refine (num_Put.at_ _ _ _ _ _ hx5 HPUT).mono ?_; rintro e w3 ⟨A3, c3, rfl, _, _, hb3, _⟩; have z1 := pw_cell_below hb3 y1; have z2 := pw_cell_below hb3 y2; have z3 := pw_cell_below hb3 y3))
            have HB3 := Aside0.mk (below_step (below_drew HBN.out) hb3)
            have HX3 := Aside0.mk (blk_below (blk_drew HXN.out) hb3)
            have HR3 := Aside0.mk (Kd.R_below (Kd.R_drew HRN.out) hb3)
            clear hb3 z1 z2 z3 y1 y2 y3
            cases pb
            · go_wp2_with (fail)
              go_ret
              refine ⟨?_, by repeat (first | (with_reducible first | exact HB3.out | apply pw_below_drewN | apply below_drew) | exact HB3.out)⟩
              have : ns.all (fun x => (putN x.2.2.2 x.2.1).2) = false := by rw [HDR.out, List.all_append, List.all_cons]; simp only [HPUT.out]; simp
              have h3 := HRR.out
              rw [this, Bool.and_false] at h3
              rw [← h3]
              rfl
            · go_wp2_with (fail)
              go_roundw
              case rel => exact ⟨k + 1, by go_num, by omega, ⟨by rw [HTK.out, List.all_append, HP.out, List.all_cons]; simp only [HPUT.out]; rfl⟩, ⟨by repeat (first | (with_reducible first | exact HB3.out | apply pw_below_drewN | apply below_drew) | exact HB3.out)⟩, ⟨by repeat (first | (with_reducible first | exact HX3.out | apply blk_drewN | apply blk_drew) | exact HX3.out)⟩, ⟨by repeat (first | (with_reducible first | exact HR3.out | apply Kd.R_drewN | apply Kd.R_drew) | exact HR3.out)⟩⟩
              case measure => simp [intOf]; omega
          · obtain rfl : k = ns.length := by omega
            have hns : ns.all (fun x => (putN x.2.2.2 x.2.1).2) = true := by have := HP.out; rwa [List.take_length] at this
            have HNS := Aside0.mk hns
            clear hns
            go_wp2_with (fail)
            go_ret
            refine ⟨?_, HB.out⟩
            have h3 := HRR.out
            rw [HWS.out, HNS.out] at h3
            rw [← h3]
            rfl
set_option maxRecDepth 100000 in
theorem head_May.calls (a0_0 a0_1 a0_2 : ByteArray) (a0_3 a0_4 a0_5 a0_6 a0_7 a0_8 a0_9 a0_10 : Int) (r : Bool) (w : World) (h : head_May.f a0_0 a0_1 a0_2 a0_3 a0_4 a0_5 a0_6 a0_7 a0_8 a0_9 a0_10 = some r) :
    Calls Try.prog 85 #[.agg #[.string a0_0, .string a0_1, .string a0_2, .int .i64 a0_3, .int .i64 a0_4, .int .i64 a0_5, .int .i64 a0_6, .int .i64 a0_7, .int .u8 a0_8, .int .i64 a0_9, .int .i64 a0_10]] w fun e w' => e = .returned (.bool r) ∧ Below w.heap.size w w' := by
  obtain ⟨hd, hhd⟩ : ∃ hd : Hd, hd = ⟨a0_0, a0_1, a0_2, a0_3, a0_4, a0_5, a0_6, a0_7, a0_8, a0_9, a0_10⟩ := ⟨_, rfl⟩
  have key : Calls Try.prog 85 #[.agg (hdCells hd).toArray] w fun e w' => e = .returned (.bool r) ∧ Below w.heap.size w w' := by
    unfold head_May.f at h
    rw [← hhd] at h
    by_cases hh : hdIn hd
    · rw [if_pos hh] at h
      have hr := Option.some.inj h
      rw [← hr]
      unfold hdOk
      cases hA : hdA hd with
      | false => exact head_May.first hd w hA
      | true => rw [Bool.true_and]; exact head_May.pass hd w hh hA
    · rw [if_neg hh] at h
      cases h
  rw [hhd] at key
  exact key

end Go.Proofs.Ytddjnicmpgbcgaa.X
