import Derived.Test.YtddjnicmpgbcgaaXK
import Derived.Test.YtddjnicmpgbcgaaXGnum
import Derived.Test.YtddjnicmpgbcgaaXheadSum
import Derived.Test.YtddjnicmpgbcgaaYConv
import Derived.Test.YtddjnicmpgbcgaaYCopy
import Derived.Test.YtddjnicmpgbcgaaYIter
import Derived.BigQuiet
import Derived.Deep.QuietTactic
import Derived.Deep.RegionHeld3
import Derived.Laws.EntriesVeiled
import Derived.RegionTactic
import Derived.WalkSpells
namespace Go.Proofs.Ytddjnicmpgbcgaa.X
open Go.RowKit Go.Proofs.YtddjnicmpgbcgaaW.PrintWords Go.Proofs.YtddjnicmpgbcgaaW.PrintLast Go.Proofs.YtddjnicmpgbcgaaW.PrintMore
attribute [local go_sem] max2_int min2_int max_two min_two max_three min_three max_four min_four
set_option linter.unusedVariables false
set_option linter.unusedSimpArgs false

open Go.Proofs.YtddjnicmpgbcgaaY
theorem row_cells {w : World} {A : Option Addr} {x : List Int} (h : Kd.C (Kd.int .u8) w A x.length x) (hp : 0 < (nums .u8 x).length) : ∃ ad, A = some ad ∧ ∀ j v, (nums .u8 x)[j]? = some v → w.cell? (ad.add j) = some v := by
  rw [nums_length] at hp
  obtain ⟨hl, hm, hr⟩ := Kd.reads_of_C (enc := Value.int .u8) (d := (0 : Int)) (h1 := fun _ => rfl) h
  obtain ⟨ad, hA, hc⟩ := hr hp
  refine ⟨ad, hA, fun j v hj => ?_⟩
  obtain ⟨hjl, hv⟩ := List.getElem?_eq_some_iff.1 hj
  rw [nums_length] at hjl
  rw [hc j hjl, ← hv]
  simp [nums, List.getD_eq_getElem?_getD, List.getElem?_eq_getElem hjl]
theorem rows_at {w : World} {A : Option Addr} {rows : List (List Int)} (h : Kd.C (Kd.slice 5 (Kd.int .u8)) w A rows.length rows) {k : Nat} (hk : k < rows.length) :
    ∃ ad A' c', A = some ad ∧ w.cell? (ad.add k) = some (.slice A' rows[k].length c') ∧ Kd.C (Kd.int .u8) w A' rows[k].length rows[k] := by
  obtain ⟨ad, cs, hA, _, hK, hc⟩ := Kd.C_get h rows[k] (k : Int) (by omega) (by omega)
  have e : rows.getD (k : Int).toNat rows[k] = rows[k] := by simp [List.getD_eq_getElem?_getD, List.getElem?_eq_getElem hk]
  rw [e] at hK
  obtain ⟨A', c', hcs, _, hC⟩ := hK
  subst hcs
  have h0 := hc 0 _ rfl
  simp only [Int.toNat_natCast, Nat.add_zero, show (Kd.slice 5 (Kd.int .u8)).sz = 1 from rfl, Nat.mul_one] at h0
  exact ⟨ad, A', c', hA, h0, hC⟩
set_option maxHeartbeats 1600000 in
set_option maxRecDepth 100000 in
theorem head_put.at_ (g : Nat) (l : List Int) (at_ : Nat) (A : Option Addr) (c : Nat) (rows : List (List Int)) (w : World) (hg : w.heap[g]? = some (.cells (nums .u8 l).toArray 5 (0, 0))) (hl : l.length ≤ 4096) (hfit : posAll at_ rows < l.length)
    (hrows : ∀ W', Turn (fun k => k = g) w W' → Kd.C (Kd.slice 5 (Kd.int .u8)) W' A rows.length rows) :
    Calls Try.prog 87 #[.agg #[.slice (some ⟨g, 0, none⟩) l.length l.length], .int .i64 at_, .slice A rows.length c] w fun e w' => e = .returned (.tuple #[]) ∧ w'.heap[g]? = some (.cells (nums .u8 (layAll l at_ rows)).toArray 5 (0, 0)) ∧ Turn (fun k => k = g) w w' := by
  have HG := Aside0.mk hg
  have HF := Aside0.mk hfit
  have HR := Aside0.mk hrows
  have hm := (hrows w (Turn.refl _ _)).2.1
  have hgl := blk_lt hg
  clear hg hfit hrows
  have HT0 := Aside0.mk (Turn.alloc (S := fun k => k = g) w (.cells #[.slice (some ⟨g, 0, none⟩) l.length l.length] 85))
  have HG0 := Aside0.mk (blk_alloc HG.out (.cells #[.slice (some ⟨g, 0, none⟩) l.length l.length] 85))
  have HX0 := Aside0.mk (heap_alloc_new w (.cells #[.slice (some ⟨g, 0, none⟩) l.length l.length] 85))
  go_enter Try.func87, Try.ntmps87
  go_wp2_with (fail)
  go_loopw [1, 10] (fun v1 v10 wr => ∃ k : Nat, v10 = .int .i64 k ∧ k ≤ rows.length ∧ v1 = .int .i64 (posAll at_ (rows.take k) : Nat) ∧ Aside0 (wr.heap[g]? = some (.cells (nums .u8 (layAll l at_ (rows.take k))).toArray 5 (0, 0))) ∧ Aside0 (wr.heap[w.heap.size]? = some (.cells #[.slice (some ⟨g, 0, none⟩) l.length l.length] 85 (0, 0))) ∧ Aside0 (Turn (fun k => k = g) w wr)) (fun _ v10 _ => rows.length - (intOf v10).toNat)
  case atStart => exact ⟨0, rfl, Nat.zero_le _, by simp [posAll], HG0, HX0, HT0⟩
  case round =>
    obtain ⟨k, rfl, hk, rfl, HG, HX, HT⟩ := hrel
    clear HG0 HX0 HT0
    by_cases hlt : k < rows.length
    · obtain ⟨ad, A', c', rfl, hcell, hC⟩ := rows_at (HR.out _ HT.out) hlt
      have htk : rows.take (k + 1) = rows.take k ++ [rows[k]] := List.take_succ_eq_append_getElem hlt
      have hp1 := posAll_take at_ rows (k + 1)
      rw [htk, posAll_snoc] at hp1
      have hp2 := HF.out
      have hll : (layAll l at_ (rows.take k)).length = l.length := layAll_length _ _ _ (by omega)
      obtain ⟨cur, hcur⟩ : ∃ cur, layAll l at_ (rows.take k) = cur := ⟨_, rfl⟩
      obtain ⟨p, hp⟩ : ∃ p, posAll at_ (rows.take k) = p := ⟨_, rfl⟩
      rw [hcur] at hll HG
      rw [hp] at hp1 ⊢
      have HCU := Aside0.mk hcur
      have HPO := Aside0.mk hp
      have HTK := Aside0.mk htk
      have hlt2 : (k : Int) < (rows.length : Int) := by omega
      have hk0 : (0 : Int) ≤ (k : Int) := by omega
      clear hcur hp htk
      generalize rows[k] = x at *
      have hx0 := blk_cell HX.out 0
      simp only [List.size_toArray, List.length_cons, List.length_nil, Nat.zero_add, Nat.lt_one_iff, getElem?_pos, List.getElem_toArray, List.getElem_cons_zero] at hx0
      have hpl : p + x.length < l.length := by omega
      have HCC := Aside0.mk hC
      have HLL := Aside0.mk hll
      have hpc : (p : Int) ≤ (l.length : Int) := by omega
      have hpc2 : ¬ l.length = p := by omega
      have hpc3 : p ≤ l.length := by omega
      clear hC hll hp1 hp2
      have HC1 := Aside0.mk (show (nums .u8 x).length = Nat.min x.length (l.length - p) from (nums_length _ _).trans (Nat.min_eq_left (show x.length ≤ l.length - p by omega)).symm)
      have HC2 := Aside0.mk (show 0 < (nums .u8 x).length → (some (⟨g, p, none⟩ : Addr)) = some ⟨g, p, none⟩ ∧ ∃ ad, A' = some ad ∧ ∀ j v, (nums .u8 x)[j]? = some v → wr.cell? (ad.add j) = some v from fun hp => ⟨rfl, row_cells HCC.out hp⟩)
      have HC3 := Aside0.mk (show p + (nums .u8 x).length ≤ (nums .u8 cur).length by rw [nums_length, nums_length]; have := HLL.out; omega)
      have HC4 := Aside0.mk (show ∀ v ∈ nums .u8 x, v.oneCell' = true from fun u hu => by unfold nums at hu; obtain ⟨_, _, rfl⟩ := List.mem_map.1 hu; rfl)
      have hnl := nums_length .u8 x
      go_wp2_with ((with_reducible refine gate_builtin (b := .copy) (xs := #[.tmp 18, .tmp 19]) rfl ?_); go_must (refine wpList_copy_turn rfl (.tmp 18) (.tmp 19) 50 50 rfl 5 Try.underlying50 (by kernel_rfl) _ _ _ _ _ _ rfl rfl g p (nums .u8 cur) 5 HG.out (nums .u8 x) HC1.out HC2.out HC3.out HC4.out ?_; intro w2 hg2 ht2))
      rw [splice_nums] at hg2
      go_roundw
      case rel =>
        refine ⟨k + 1, by go_num, by omega, ?_, ⟨?_⟩, ⟨?_⟩, ⟨HT.out.trans ht2⟩⟩
        · rw [HTK.out, posAll_snoc, HPO.out]; go_num
        · rw [HTK.out, layAll_snoc, HCU.out, HPO.out]; exact hg2
        · exact (ht2.block _ (blk_lt HX.out) (by omega)).trans HX.out
      case measure => simp [intOf]; omega
    · obtain rfl : k = rows.length := by omega
      go_wp2_with (fail)
      go_end0
      have h1 := HG.out
      rw [List.take_length] at h1
      exact ⟨rfl, h1, HT.out⟩
theorem Ev.ifp {α : Type} {c : Prop} [Decidable c] {a b : Nat → Option α} {r : α} (hc : c) (h : Ev a r) : Ev (fun k => if c then a k else b k) r := by simpa only [_root_.if_pos hc] using h
theorem Ev.ifn {α : Type} {c : Prop} [Decidable c] {a b : Nat → Option α} {r : α} (hc : ¬ c) (h : Ev b r) : Ev (fun k => if c then a k else b k) r := by simpa only [_root_.if_neg hc] using h
/-- What the sum of a block of 512 bytes is. -/
def sumL : List Int → Nat → Int
  | [], _ => 0
  | c :: r, i => (if 148 ≤ i ∧ i < 156 then 32 else c) + sumL r (i + 1)
theorem sumL_bd : ∀ (l : List Int) (i : Nat), (∀ c ∈ l, 0 ≤ c ∧ c ≤ 255) → 0 ≤ sumL l i ∧ sumL l i ≤ 255 * l.length
  | [], _, _ => by simp [sumL]
  | c :: r, i, h => by
    have h1 := h c (.head _)
    have h2 := sumL_bd r (i + 1) (fun x hx => h x (.tail _ hx))
    rw [sumL]
    split <;> simp only [List.length_cons] <;> omega
theorem head_Sum.ev (l : List Int) (hl : l.length = 512) (hr : ∀ c ∈ l, 0 ≤ c ∧ c ≤ 255) : Ev (fun k => head_Sum.f k l) (sumL l 0) := by
  have key : ∀ (d i : Nat) (s : Int), i + d = 512 → 0 ≤ s → s ≤ 255 * i → Ev (fun k => head_Sum.l0 k s l (l.length : Int) (i : Int)) (s + sumL (l.drop i) i) := by
    intro d
    induction d with
    | zero =>
      intro i s hi h0 h1
      refine Ev.step (fun _ => rfl) ?_
      simp only [head_Sum.l0]
      refine Ev.ifn (by omega) ?_
      rw [List.drop_of_length_le (by omega), sumL, Int.add_zero]
      exact Ev.now _
    | succ d ih =>
      intro i s hi h0 h1
      have hlt : i < l.length := by omega
      have hrd : rd l (i : Int) = l[i] := by unfold rd; simp [List.getD_eq_getElem?_getD, List.getElem?_eq_getElem hlt]
      have hb := hr l[i] (List.getElem_mem hlt)
      have hw : wrap64 ((i : Int) + 1) = ((i + 1 : Nat) : Int) := by unfold wrap64; omega
      have hd : l.drop i = l[i] :: l.drop (i + 1) := List.drop_eq_getElem_cons hlt
      refine Ev.step (fun _ => rfl) ?_
      simp only [head_Sum.l0]
      refine Ev.ifp (by omega) ?_
      refine Ev.ifp (by omega) ?_
      refine Ev.ifp (by omega) ?_
      rw [hw, hrd, hd, sumL]
      have hw2 : wrap64 l[i] = l[i] := by unfold wrap64; omega
      have hw3 : wrap64 (s + l[i]) = s + l[i] := by unfold wrap64; omega
      have hw4 : wrap64 (s + 32) = s + 32 := by unfold wrap64; omega
      rw [hw2, hw3, hw4]
      by_cases c1 : (i : Int) ≥ 148
      · refine Ev.ifp c1 ?_
        by_cases c2 : (i : Int) < 156
        · refine Ev.ifp c2 ?_
          rw [if_pos (by omega), ← Int.add_assoc]
          exact ih (i + 1) (s + 32) (by omega) (by omega) (by omega)
        · refine Ev.ifn c2 ?_
          rw [if_neg (by omega), ← Int.add_assoc]
          exact ih (i + 1) (s + l[i]) (by omega) (by omega) (by omega)
      · refine Ev.ifn c1 ?_
        rw [if_neg (by omega), ← Int.add_assoc]
        exact ih (i + 1) (s + l[i]) (by omega) (by omega) (by omega)
  have h := key 512 0 0 rfl (Int.le_refl _) (by omega)
  rw [List.drop_zero, Int.zero_add] at h
  unfold head_Sum.f
  exact Ev.ifp (by omega) h
/-- How a sum stands. -/
def signL (n : Int) : List Int := octL n.toNat 6 ++ [0, 32]
theorem head_Sum.at_ (A : Option Addr) (c : Nat) (l : List Int) (w : World) (hl : l.length = 512) (hr : ∀ c ∈ l, 0 ≤ c ∧ c ≤ 255) (hC : Kd.C (Kd.int .u8) w A l.length l) (hc : l.length ≤ c) :
    Calls Try.prog 105 #[.slice A l.length c] w fun e w' => e = .returned (.int .i64 (sumL l 0)) ∧ Drawn0 w w' := by
  obtain ⟨k, hk⟩ := (head_Sum.ev l hl hr).rounds
  exact head_Sum.calls k A c l _ w hC hc hk
set_option maxHeartbeats 1600000 in
set_option maxRecDepth 100000 in
theorem head_sum.at_ (g : Nat) (l : List Int) (w : World) (hg : w.heap[g]? = some (.cells (nums .u8 l).toArray 5 (0, 0))) (hl : l.length = 512) (hr : ∀ c ∈ l, 0 ≤ c ∧ c ≤ 255) :
    Calls Try.prog 90 #[.agg #[.slice (some ⟨g, 0, none⟩) l.length l.length]] w fun e w' => ∃ A c, e = .returned (.slice A (signL (sumL l 0)).length c) ∧ (signL (sumL l 0)).length ≤ c ∧ Kd.C (Kd.int .u8) w' A (signL (sumL l 0)).length (signL (sumL l 0)) ∧ Below w.heap.size w w' ∧ (∀ ad, A = some ad → w.heap.size ≤ ad.block) := by
  have hbd := sumL_bd l 0 hr
  rw [hl] at hbd
  have hC : Kd.C (Kd.int .u8) w (some ⟨g, 0, none⟩) l.length l := C_of_cells (by omega) (fun j u hj => by rw [blk_cell hg j, List.getElem?_toArray]; exact hj)
  have hsum := fun (W : World) (hb : Below w.heap.size w W) => head_Sum.at_ (some ⟨g, 0, none⟩) l.length l W hl hr (Kd.C_below hC hb) (Nat.le_refl _)
  obtain ⟨n, hn⟩ := Int.eq_ofNat_of_zero_le hbd.1
  rw [hn] at hsum hbd ⊢
  have hn2 : n ≤ 130560 := by omega
  have hz : n / 8 ^ 6 = 0 := Nat.div_eq_of_lt (by omega)
  have hoct := fun W => num_Octal.calls (n : Int) 6 (strOfNums (octL n 6), true) W (by
    unfold num_Octal.f
    rw [if_neg (by omega)]
    have : octOk (n : Int) 6 = true := by
      unfold octOk
      rw [decide_eq_true (show (0 : Int) ≤ n by omega)]
      simp [hz]
    rw [if_pos this]
    rfl)
  obtain ⟨txt, htxt⟩ : ∃ s, strOfNums (octL n 6) = s := ⟨_, rfl⟩
  rw [htxt] at hoct
  have hbo : bytesOf txt = octL n 6 := by rw [← htxt]; exact bytes_of_nums _ (octL_range 6 n)
  have hsz : txt.size = 6 := by rw [← htxt, strOfNums_size, octL_length]
  have HBO := Aside0.mk hbo
  have HSZ := Aside0.mk hsz
  have HS := Aside0.mk hsum
  have HB0 := Aside0.mk (below_alloc (Below.refl w.heap.size w) (.cells #[.slice (some ⟨g, 0, none⟩) l.length l.length] 87))
  have kb := fun W => print_bytes (P := Try.prog) 9 50 5 Try.underlying9 Try.underlying50 Try.underlying5 txt W
  have hsg : signL (n : Int) = octL n 6 ++ [0, 32] := rfl
  rw [hsg]
  clear htxt hbo hsz hsum hC hn hbd hz hg hr hsg hl
  go_enter Try.func90, Try.ntmps90
  go_wp2_with (first | (go_at_call 105; refine (HS.out _ HB0.out).mono ?_; rintro e w' ⟨rfl, ⟨nd, rfl⟩⟩) | (go_at_call 104; refine (hoct _).mono ?_; rintro e w1 ⟨rfl, hb1⟩) | (at_builtin; refine wpList_append_bytes w1 rfl (.tmp 14) (.tmp 15) 50 5 rfl Try.underlying50 info5 txt [0, 32] (by decide) rfl rfl (by have := HSZ.out; simp; omega) ?_; intro g c w2 hg hc hC hb2))
  go_ret
  have e : (octL n 6 ++ [0, 32]).length = txt.size + 2 := by rw [List.length_append, octL_length, HSZ.out]; rfl
  rw [HBO.out] at hC hc
  rw [← e]
  have hz1 : w.heap.size + 1 ≤ w1.heap.size := by have := hb1.size; simpa using this
  refine ⟨_, c, rfl, hc, hC, ?_, fun ad h => by cases h; simp only; omega⟩
  exact below_then (pw_below_drewN HB0.out _) (by simp) (below_then hb1 hb1.size hb2)

end Go.Proofs.Ytddjnicmpgbcgaa.X
