import Derived.Test.YtddjnicmpgbcgaaXK
import Derived.Test.YtddjnicmpgbcgaaXGhead
import Derived.Test.YtddjnicmpgbcgaaXGnum
import Derived.Test.YtddjnicmpgbcgaaXGreelkeeperref01
import Derived.Test.YtddjnicmpgbcgaaYConv
import Derived.Test.YtddjnicmpgbcgaaYCopy
import Derived.Test.YtddjnicmpgbcgaaYIter
import Derived.Deep.DeepCutAuto
import Derived.Deep.RegionHeld3
import Derived.Laws.EntriesVeiled
import Derived.WalkSpells
namespace Go.Proofs.Ytddjnicmpgbcgaa.X
open Go.RowKit Go.Proofs.YtddjnicmpgbcgaaW.PrintWords Go.Proofs.YtddjnicmpgbcgaaW.PrintLast Go.Proofs.YtddjnicmpgbcgaaW.PrintMore
attribute [local go_sem] max2_int min2_int max_two min_two max_three min_three max_four min_four
set_option linter.unusedVariables false
set_option linter.unusedSimpArgs false

open Go.Proofs.YtddjnicmpgbcgaaY
theorem splice_set (l x : List Int) (p i : Nat) (hi : i < x.length) (hf : p + x.length ≤ l.length) : (splice l p (x.take i)).set (p + i) x[i] = splice l p (x.take (i + 1)) := by
  unfold splice
  have h1 : (x.take i).length = i := by rw [List.length_take]; omega
  have h2 : (x.take (i + 1)).length = i + 1 := by rw [List.length_take]; omega
  have h3 : (l.take p).length = p := by rw [List.length_take]; omega
  rw [h1, h2, List.set_append_right _ _ (by omega), h3, Nat.add_sub_cancel_left, List.set_append_right _ _ (by omega), h1, Nat.sub_self, List.take_succ_eq_append_getElem hi]
  have hd : l.drop (p + i) = l[p + i] :: l.drop (p + (i + 1)) := by rw [List.drop_eq_getElem_cons (by omega)]; rfl
  rw [hd, List.set_cons_zero, List.append_assoc]
  rfl
theorem nums_set (l : List Int) (i : Nat) (x : Int) : (nums .u8 l).toArray.setIfInBounds i (.int .u8 x) = (nums .u8 (l.set i x)).toArray := by
  unfold nums
  rw [List.setIfInBounds_toArray, List.map_set]
set_option maxHeartbeats 1600000 in
set_option maxRecDepth 100000 in
theorem ref04_lay.at_ (g : Nat) (l : List Int) (at_ : Nat) (A : Option Addr) (c : Nat) (x : List Int) (w : World) (hg : w.heap[g]? = some (.cells (nums .u8 l).toArray 5 (0, 0))) (hl : l.length = 512) (hfit : at_ + x.length ≤ 512)
    (hC : ∀ W', Turn (fun k => k = g) w W' → Kd.C (Kd.int .u8) W' A x.length x) :
    Calls Try.prog 94 #[.slice (some ⟨g, 0, none⟩) 512 512, .int .i64 at_, .slice A x.length c] w fun e w' => e = .returned (.slice (some ⟨g, 0, none⟩) 512 512) ∧ w'.heap[g]? = some (.cells (nums .u8 (splice l at_ x)).toArray 5 (0, 0)) ∧ Turn (fun k => k = g) w w' := by
  have HG := Aside0.mk hg
  have HC := Aside0.mk hC
  have HL := Aside0.mk hl
  clear hg hC hl
  go_enter Try.func94, Try.ntmps94
  go_wp2
  go_loopw [7] (fun v7 wr => ∃ i : Nat, v7 = .int .i64 i ∧ i ≤ x.length ∧ Aside0 (wr.heap[g]? = some (.cells (nums .u8 (splice l at_ (x.take i))).toArray 5 (0, 0))) ∧ Aside0 (Turn (fun k => k = g) w wr)) (fun v7 _ => x.length - (intOf v7).toNat)
  case atStart => exact ⟨0, rfl, Nat.zero_le _, ⟨by simpa [splice] using HG.out⟩, ⟨Turn.refl _ _⟩⟩
  case round =>
    obtain ⟨i, rfl, hi, HR, HT⟩ := hrel
    by_cases hlt : i < x.length
    · obtain ⟨ad, rfl, hx⟩ := Kd.at_int (HC.out _ HT.out) (i : Int) (by omega) (by omega)
      have hrd : rd x (i : Int) = x[i] := by unfold rd; simp [List.getD_eq_getElem?_getD, List.getElem?_eq_getElem hlt]
      rw [hrd] at hx
      simp only [Int.toNat_natCast] at hx
      have hst := splice_set l x at_ i hlt (by rw [HL.out]; exact hfit)
      have hlen : (splice l at_ (x.take i)).length = 512 := by rw [length_splice _ _ _ (by rw [HL.out, List.length_take]; omega)]; exact HL.out
      obtain ⟨cur, hcur⟩ : ∃ cur, splice l at_ (x.take i) = cur := ⟨_, rfl⟩
      rw [hcur] at HR hst hlen
      obtain ⟨xi, hxi⟩ : ∃ xi, x[i] = xi := ⟨_, rfl⟩
      rw [hxi] at hx hst
      have hc0 : wr.cell? ⟨g, at_ + i, none⟩ = some (.int .u8 (cur.getD (at_ + i) 0)) := by
        rw [blk_cell HR.out, List.getElem?_toArray]
        unfold nums
        rw [List.getElem?_map, List.getElem?_eq_getElem (by omega)]
        simp [List.getD_eq_getElem?_getD, List.getElem?_eq_getElem (show at_ + i < cur.length by omega)]
      have hf0 := blk_frozen HR.out (at_ + i)
      have HST := Aside0.mk hst
      have hb1 : (at_ : Int) + (i : Int) < 512 := by omega
      have hb2 : (0 : Int) ≤ (at_ : Int) + (i : Int) := by omega
      have hb3 : (at_ + i : Nat) < 512 := by omega
      have hlt2 : (i : Int) < (x.length : Int) := by omega
      have hb4 : ((at_ : Int) + (i : Int)).toNat = at_ + i := by omega
      clear hst hlen hcur hxi hrd
      go_wp2
      go_roundw
      case rel =>
        refine ⟨i + 1, by go_num, by omega, ⟨?_⟩, ⟨HT.out.trans (Turn.setCell _ _ rfl)⟩⟩
        rw [← HST.out, ← nums_set]
        exact blk_set HR.out (at_ + i) _
      case measure => simp [intOf]; omega
    · obtain rfl : i = x.length := by omega
      have h1 := HR.out
      rw [List.take_length] at h1
      have H1 := Aside0.mk h1
      clear h1
      go_wp2
      go_ret
      exact ⟨rfl, H1.out, HT.out⟩

/-- Where the reference lays a block: the row, the header. -/
structure RowAt (w : World) (h : Hd) (g : Nat) (l : List Int) (W : World) : Prop where
  row : W.heap[g]? = some (.cells (nums .u8 l).toArray 5 (0, 0))
  hd : W.heap[w.heap.size]? = some (.cells (hdCells h).toArray 71 (0, 0))
  bel : Below w.heap.size w W
  len : l.length = 512
  byte : byteOk l
  gt : w.heap.size < g
theorem RowAt.below {w : World} {h : Hd} {g : Nat} {l : List Int} {W W' : World} (k : RowAt w h g l W) (hb : Below W.heap.size W W') : RowAt w h g l W' :=
  ⟨blk_below k.row hb, blk_below k.hd hb, below_step k.bel hb, k.len, k.byte, k.gt⟩
theorem RowAt.turn {w : World} {h : Hd} {g : Nat} {l l' : List Int} {W W' : World} (k : RowAt w h g l W) (ht : Turn (fun k => k = g) W W') (hrow : W'.heap[g]? = some (.cells (nums .u8 l').toArray 5 (0, 0))) (hl : l'.length = 512) (hby : byteOk l') : RowAt w h g l' W' :=
  have hgt := k.gt
  ⟨hrow, (ht.block _ (blk_lt k.hd) (by omega)).trans k.hd, k.bel.trans (ht.below (fun k hk => by omega) k.bel.size), hl, hby, hgt⟩
theorem RowAt.lay {w : World} {h : Hd} {g : Nat} {l : List Int} {W : World} (k : RowAt w h g l W) (at_ : Int) (h0 : 0 ≤ at_) (A : Option Addr) (c : Nat) (x : List Int) (hC : Kd.C (Kd.int .u8) W A x.length x) (hA : ∀ ad, A = some ad → ad.block ≠ g) (hfit : at_.toNat + x.length ≤ 512) (hx : byteOk x) :
    Calls Try.prog 94 #[.slice (some ⟨g, 0, none⟩) 512 512, .int .i64 at_, .slice A x.length c] W fun e w' => e = .returned (.slice (some ⟨g, 0, none⟩) 512 512) ∧ RowAt w h g (splice l at_.toNat x) w' := by
  obtain ⟨n, rfl⟩ := Int.eq_ofNat_of_zero_le h0
  refine (ref04_lay.at_ g l n A c x W k.row k.len hfit (fun W' ht => C_turn hC ht hA)).mono ?_
  rintro e w' ⟨rfl, hr, ht⟩
  exact ⟨rfl, k.turn ht hr (by rw [Int.toNat_natCast, length_splice _ _ _ (by rw [k.len]; exact hfit)]; exact k.len) (byteOk_splice k.byte hx)⟩
set_option maxHeartbeats 1600000 in
set_option maxRecDepth 100000 in
theorem RowAt.number {w : World} {h : Hd} {g : Nat} {l : List Int} {W : World} (k : RowAt w h g l W) (at_ wide n : Int) (h0 : 0 ≤ at_) (h9 : n ≤ 9223372036854775807) (hfit : at_.toNat + (putN n wide).1.length ≤ 512) :
    Calls Try.prog 95 #[.slice (some ⟨g, 0, none⟩) 512 512, .int .i64 at_, .int .i64 wide, .int .i64 n] W fun e w' => e = .returned (.slice (some ⟨g, 0, none⟩) 512 512) ∧ RowAt w h g (splice l at_.toNat (putN n wide).1) w' := by
  have hby := byteOk_putN n wide
  obtain ⟨pl, pb, hp⟩ : ∃ l b, putN n wide = (l, b) := ⟨_, _, rfl⟩
  rw [hp] at hfit hby ⊢
  simp only at hfit hby ⊢
  have hput := fun W => ref01_Put.at_ n wide pl pb W h9 ⟨hp⟩
  have KK := Aside0.mk k
  have HBY := Aside0.mk hby
  have HFIT := Aside0.mk hfit
  clear hp k hby hfit
  go_enter Try.func95, Try.ntmps95
  go_wp2_with (first | (go_at_call 109; refine (hput _).mono ?_; rintro e w1 ⟨A, c, rfl, hc, hC, hb, hA⟩; have hlay := (KK.out.below hb).lay at_ h0 A c pl hC (fun ad h => by have h5 := hA ad h; have h6 := blk_lt KK.out.row; omega) HFIT.out HBY.out; clear hc hC hb hA) | (go_at_call 94; refine hlay.mono ?_; rintro e w2 ⟨rfl, hk2⟩))
  go_ret
  exact ⟨rfl, hk2⟩
set_option maxHeartbeats 1600000 in
set_option maxRecDepth 100000 in
theorem ref04_sign.at_ (n : Nat) (hn2 : n ≤ 130560) (w : World) :
    Calls Try.prog 96 #[.int .i64 n] w fun e w' => ∃ A c, e = .returned (.slice A (signL n).length c) ∧ (signL n).length ≤ c ∧ Kd.C (Kd.int .u8) w' A (signL n).length (signL n) ∧ Below w.heap.size w w' ∧ (∀ ad, A = some ad → w.heap.size ≤ ad.block) := by
  have hz : n / 8 ^ 6 = 0 := Nat.div_eq_of_lt (by omega)
  obtain ⟨kk, hkk⟩ := (ref_octal n 6 (by omega) (by omega)).rounds
  rw [if_pos hz] at hkk
  have hoct : ∀ W, Calls Try.prog 110 #[.int .i64 n, .int .i64 6] W fun e w' => e = .returned (.tuple #[.string (strOfNums (octL n 6)), .bool true]) ∧ Below W.heap.size W w' := fun W => (reelkeeperref01_Octal.calls kk (n : Int) 6 (strOfNums (octL n 6)) true W hkk).mono (fun _ _ h => ⟨h.1, h.2.below⟩)
  obtain ⟨txt, htxt⟩ : ∃ s, strOfNums (octL n 6) = s := ⟨_, rfl⟩
  rw [htxt] at hoct
  have hbo : bytesOf txt = octL n 6 := by rw [← htxt]; exact bytes_of_nums _ (octL_range 6 n)
  have hsz : txt.size = 6 := by rw [← htxt, strOfNums_size, octL_length]
  have HBO := Aside0.mk hbo
  have HSZ := Aside0.mk hsz
  have kb := fun W => print_bytes (P := Try.prog) 9 50 5 Try.underlying9 Try.underlying50 Try.underlying5 txt W
  have hsg : signL (n : Int) = octL n 6 ++ [0, 32] := rfl
  rw [hsg]
  clear htxt hbo hsz hz hsg hkk
  go_enter Try.func96, Try.ntmps96
  go_wp2_with (first | (go_at_call 110; refine (hoct _).mono ?_; rintro e w1 ⟨rfl, hb1⟩) | (at_builtin; refine wpList_append_bytes w1 rfl (.tmp 11) (.tmp 12) 50 5 rfl Try.underlying50 info5 txt [0, 32] (by decide) rfl rfl (by have := HSZ.out; simp; omega) ?_; intro g c w2 hg hc hC hb2))
  go_ret
  have e : (octL n 6 ++ [0, 32]).length = txt.size + 2 := by rw [List.length_append, octL_length, HSZ.out]; rfl
  rw [HBO.out] at hC hc
  rw [← e]
  refine ⟨_, c, rfl, hc, hC, below_then hb1 hb1.size hb2, fun ad h => by cases h; exact Nat.le_trans hb1.size hg⟩

end Go.Proofs.Ytddjnicmpgbcgaa.X
namespace Go.Proofs.Ytddjnicmpgbcgaa.X
open Go.RowKit Go.Proofs.YtddjnicmpgbcgaaW.PrintWords Go.Proofs.YtddjnicmpgbcgaaW.PrintLast Go.Proofs.YtddjnicmpgbcgaaW.PrintMore
attribute [local go_sem] max2_int min2_int max_two min_two max_three min_three max_four min_four
set_option linter.unusedVariables false
set_option linter.unusedSimpArgs false

/-! ### reelkeeperref04_word: function 107 -/
def reelkeeperref04_word.l0 : Nat → ByteArray → Int → Int → Option (Bool)
  | 0, _, _, _ => none
  | k + 1, x0, x1, x5 => if x5 < (x0.size : Int) then (if 0 ≤ x5 then (if (bt x0 x5) = 0 then (some false) else (reelkeeperref04_word.l0 k x0 x1 (wrap64 (x5 + 1)))) else (none)) else (some (decide ((x0.size : Int) ≤ x1)))
def reelkeeperref04_word.f (k : Nat) (a0 : ByteArray) (a1 : Int) : Option (Bool) := reelkeeperref04_word.l0 k a0 a1 0
theorem reelkeeperref04_word.mono_l : ∀ k, (∀ y0 y1 y2, LeO (reelkeeperref04_word.l0 k y0 y1 y2) (reelkeeperref04_word.l0 (k + 1) y0 y1 y2))
  | 0 => fun _ _ _ r h => by simp [reelkeeperref04_word.l0] at h
  | k + 1 => by
    have ih0 := reelkeeperref04_word.mono_l k
    · intro y0 y1 y2
      unfold reelkeeperref04_word.l0
      repeat' first
      | (with_reducible exact ih0 _ _ _)
      | (with_reducible exact LeO.refl _)
      | (with_reducible exact LeO.none _)
      | (with_reducible refine LeO.ite ?_ ?_)
      | (with_reducible refine LeO.bind ?_ (fun _ => ?_))
      | exact ih0 _ _ _
      | exact LeO.none _
      | refine LeO.ite ?_ ?_
      | refine LeO.bind ?_ (fun _ => ?_)
theorem reelkeeperref04_word.mono : ∀ a0 a1 k, LeO (reelkeeperref04_word.f k a0 a1) (reelkeeperref04_word.f (k + 1) a0 a1) := by
  intro a0 a1 k
  have ih0 := reelkeeperref04_word.mono_l k
  unfold reelkeeperref04_word.f
  repeat' first
      | (with_reducible exact ih0 _ _ _)
      | (with_reducible exact LeO.refl _)
      | (with_reducible exact LeO.none _)
      | (with_reducible refine LeO.ite ?_ ?_)
      | (with_reducible refine LeO.bind ?_ (fun _ => ?_))
      | exact ih0 _ _ _
      | exact LeO.none _
      | refine LeO.ite ?_ ?_
      | refine LeO.bind ?_ (fun _ => ?_)
set_option maxHeartbeats 8000000 in
set_option maxRecDepth 100000 in
theorem reelkeeperref04_word.calls (k : Nat) (a0 : ByteArray) (a1 : Int) (r : Bool) (w : World) (h : reelkeeperref04_word.f k a0 a1 = some r) :
    Calls Try.prog 107 #[.string a0, .int .i64 a1] w fun e w' => e = .returned (.bool r) ∧ Drawn0 w w' := by
  have H : (reelkeeperref04_word.l0 k a0 a1 0) = some r := h
  clear h
  have H' := Aside0.mk H
  clear H
  go_enter Try.func107, Try.ntmps107
  go_wp2
  go_loopg [5] k (fun kq v5 w' => ∃ (x5_1 : Int), v5 = .int .i64 x5_1 ∧ Aside0 (reelkeeperref04_word.l0 kq a0 a1 x5_1 = some r) ∧ Aside0 (kq ≤ k) ∧ Drawn0 w w')
  case atStart => exact ⟨(0), (by first | rfl | (simp; done) | (simp [*]; done)), H', ⟨Nat.le_refl _⟩, by repeat (first | exact Drawn0.refl _ | apply Drawn0.step)⟩
  case round =>
    clear H'
    try clear c1
    try clear p2
    obtain ⟨x5_1, rfl, HA, HK1, ⟨m1, rfl⟩⟩ := hrel
    cases gk with
    | zero => exact absurd HA.out (by simp [reelkeeperref04_word.l0])
    | succ k1 =>
      have H := HA.out
      clear HA
      simp only [reelkeeperref04_word.l0] at H
      by_cases c3 : x5_1 < (a0.size : Int)
      · rw [if_pos c3] at H
        have c3b0 : decide (x5_1 < (a0.size : Int)) = true := decide_eq_true c3
        clear c3
        by_cases c4 : 0 ≤ x5_1
        · rw [if_pos c4] at H
          have c4b0 : decide (0 ≤ x5_1) = true := decide_eq_true c4
          clear c4
          by_cases c6 : (bt a0 x5_1) = 0
          · rw [if_pos c6] at H
            have c6b0 : ((bt a0 x5_1) == 0) = true := beq_iff_eq.mpr c6
            have c6b1 : ((bt a0 x5_1) != 0) = false := bne_eq_false_iff_eq.mpr c6
            clear c6
            obtain rfl := Option.some.inj H
            have p5 : 0 ≤ (x5_1 : Int) := of_decide_eq_true (by first | (with_reducible assumption) | assumption)
            have q5 : x5_1 < (a0.size : Int) := of_decide_eq_true (by first | (with_reducible assumption) | assumption)
            have hx5 := bt_at a0 x5_1
            replace p5 := eq_true p5
            replace q5 := eq_true q5
            go_wp2
            go_ret
            exact ⟨by first | rfl | (simp; done) | (simp [*]; done), by repeat (first | exact Drawn0.refl _ | apply Drawn0.step)⟩
          · rw [if_neg c6] at H
            have c6b0 : ((bt a0 x5_1) == 0) = false := beq_eq_false_iff_ne.mpr c6
            have c6b1 : ((bt a0 x5_1) != 0) = true := bne_iff_ne.mpr c6
            have H' := Aside0.mk H
            clear H
            have p5 : 0 ≤ (x5_1 : Int) := of_decide_eq_true (by first | (with_reducible assumption) | assumption)
            have q5 : x5_1 < (a0.size : Int) := of_decide_eq_true (by first | (with_reducible assumption) | assumption)
            have hx5 := bt_at a0 x5_1
            replace p5 := eq_true p5
            replace q5 := eq_true q5
            go_wp2
            go_roundg k1
            case measure => have := HK1.out; omega
            case rel => exact ⟨(wrap64 (x5_1 + 1)), (by first | rfl | (simp; done) | (simp [*]; done)), H', ⟨by have := HK1.out; omega⟩, by repeat (first | exact Drawn0.refl _ | apply Drawn0.step)⟩
        · rw [if_neg c4] at H
          exact absurd H (by simp)
      · rw [if_neg c3] at H
        have c3b0 : decide (x5_1 < (a0.size : Int)) = false := decide_eq_false c3
        clear c3
        obtain rfl := Option.some.inj H
        go_wp2
        go_ret
        exact ⟨by first | rfl | (simp; done) | (simp [*]; done), by repeat (first | exact Drawn0.refl _ | apply Drawn0.step)⟩

end Go.Proofs.Ytddjnicmpgbcgaa.X
namespace Go.Proofs.Ytddjnicmpgbcgaa.X
open Go.RowKit Go.Proofs.YtddjnicmpgbcgaaW.PrintWords Go.Proofs.YtddjnicmpgbcgaaW.PrintLast Go.Proofs.YtddjnicmpgbcgaaW.PrintMore
attribute [local go_sem] max2_int min2_int max_two min_two max_three min_three max_four min_four
set_option linter.unusedVariables false
set_option linter.unusedSimpArgs false

def reelkeeperref04_fits.f (a0 a1 : Int) : Option Bool := if a0 ≤ 9223372036854775807 then some (putN a0 a1).2 else none
set_option maxHeartbeats 1600000 in
theorem reelkeeperref04_fits.calls (a0 a1 : Int) (r : Bool) (w : World) (h : reelkeeperref04_fits.f a0 a1 = some r) :
    Calls Try.prog 108 #[.int .i64 a0, .int .i64 a1] w fun e w' => e = .returned (.bool r) ∧ Below w.heap.size w w' := by
  unfold reelkeeperref04_fits.f at h
  by_cases h9 : a0 ≤ 9223372036854775807
  · rw [if_pos h9] at h
    have hr := Option.some.inj h
    obtain ⟨l, b, hp⟩ : ∃ l b, putN a0 a1 = (l, b) := ⟨_, _, rfl⟩
    rw [hp] at hr
    have hput := fun W => ref01_Put.at_ a0 a1 l b W h9 ⟨hp⟩
    simp only at hr
    subst hr
    clear h hp
    go_enter Try.func108, Try.ntmps108
    go_wp2_with (first | (go_at_call 109; refine (hput _).mono ?_; rintro e w1 ⟨A, c, rfl, _, _, hb, _⟩))
    go_ret
    exact ⟨rfl, hb⟩
  · rw [if_neg h9] at h
    cases h

end Go.Proofs.Ytddjnicmpgbcgaa.X
namespace Go.Proofs.Ytddjnicmpgbcgaa.X
open Go.RowKit Go.Proofs.YtddjnicmpgbcgaaW.PrintWords Go.Proofs.YtddjnicmpgbcgaaW.PrintLast Go.Proofs.YtddjnicmpgbcgaaW.PrintMore
attribute [local go_sem] max2_int min2_int max_two min_two max_three min_three max_four min_four
set_option linter.unusedVariables false
set_option linter.unusedSimpArgs false

/-! ### reelkeeperref04_May: function 93 -/
mutual
def reelkeeperref04_May.j0 : Nat → Bool → ByteArray → ByteArray → ByteArray → Int → Int → Int → Int → Int → Int → Int → Int → Option (Bool)
  | 0, _, _, _, _, _, _, _, _, _, _, _, _ => none
  | k + 1, x71, x102000, x102001, x102002, x102003, x102004, x102005, x102006, x102007, x102008, x102009, x102010 => if x71 = true then (some false) else (if x102008 = 48 then (reelkeeperref04_May.j1 k x102008 (x102008 == 48) x102000 x102001 x102002 x102003 x102004 x102005 x102006 x102007 x102008 x102009 x102010) else (if x102008 = 49 then (reelkeeperref04_May.j1 k x102008 (x102008 == 49) x102000 x102001 x102002 x102003 x102004 x102005 x102006 x102007 x102008 x102009 x102010) else (if x102008 = 50 then (reelkeeperref04_May.j1 k x102008 (x102008 == 50) x102000 x102001 x102002 x102003 x102004 x102005 x102006 x102007 x102008 x102009 x102010) else (if x102008 = 53 then (reelkeeperref04_May.j1 k x102008 (x102008 == 53) x102000 x102001 x102002 x102003 x102004 x102005 x102006 x102007 x102008 x102009 x102010) else (if x102008 = 75 then (reelkeeperref04_May.j1 k x102008 (x102008 == 75) x102000 x102001 x102002 x102003 x102004 x102005 x102006 x102007 x102008 x102009 x102010) else (if x102008 = 76 then (reelkeeperref04_May.j1 k x102008 (x102008 == 76) x102000 x102001 x102002 x102003 x102004 x102005 x102006 x102007 x102008 x102009 x102010) else (reelkeeperref04_May.j1 k x102008 (x102008 == 86) x102000 x102001 x102002 x102003 x102004 x102005 x102006 x102007 x102008 x102009 x102010)))))))
def reelkeeperref04_May.j1 : Nat → Int → Bool → ByteArray → ByteArray → ByteArray → Int → Int → Int → Int → Int → Int → Int → Int → Option (Bool)
  | 0, _, _, _, _, _, _, _, _, _, _, _, _, _ => none
  | k + 1, x73, x74, x102000, x102001, x102002, x102003, x102004, x102005, x102006, x102007, x102008, x102009, x102010 => if x74 = true then (if x102009 = 0 then (some (x102010 == 0)) else (some false)) else (if x73 = 77 then ((reelkeeperref04_fits.f x102009 12).bind fun t110 => ((reelkeeperref04_fits.f x102010 12).bind fun t111 => (if x102001.toList = ([] : List UInt8) then (if t110 = true then (some t111) else (some false)) else (some false)))) else (some false))
end
def reelkeeperref04_May.f (k : Nat) (a0_0 : ByteArray) (a0_1 : ByteArray) (a0_2 : ByteArray) (a0_3 : Int) (a0_4 : Int) (a0_5 : Int) (a0_6 : Int) (a0_7 : Int) (a0_8 : Int) (a0_9 : Int) (a0_10 : Int) : Option (Bool) := (reelkeeperref04_word.f k a0_0 100).bind fun t102 => ((reelkeeperref04_word.f k a0_2 100).bind fun t103 => ((reelkeeperref04_word.f k a0_1 155).bind fun t104 => ((reelkeeperref04_fits.f a0_3 8).bind fun t105 => ((reelkeeperref04_fits.f a0_4 8).bind fun t106 => ((reelkeeperref04_fits.f a0_5 8).bind fun t107 => ((reelkeeperref04_fits.f a0_6 12).bind fun t108 => ((reelkeeperref04_fits.f a0_7 12).bind fun t109 => (if t102 = true then (if t103 = true then (if t104 = true then (if t105 = true then (if t106 = true then (if t107 = true then (if t108 = true then (if t109 = true then (reelkeeperref04_May.j0 k (a0_0.toList == ([] : List UInt8)) a0_0 a0_1 a0_2 a0_3 a0_4 a0_5 a0_6 a0_7 a0_8 a0_9 a0_10) else (reelkeeperref04_May.j0 k true a0_0 a0_1 a0_2 a0_3 a0_4 a0_5 a0_6 a0_7 a0_8 a0_9 a0_10)) else (reelkeeperref04_May.j0 k true a0_0 a0_1 a0_2 a0_3 a0_4 a0_5 a0_6 a0_7 a0_8 a0_9 a0_10)) else (reelkeeperref04_May.j0 k true a0_0 a0_1 a0_2 a0_3 a0_4 a0_5 a0_6 a0_7 a0_8 a0_9 a0_10)) else (reelkeeperref04_May.j0 k true a0_0 a0_1 a0_2 a0_3 a0_4 a0_5 a0_6 a0_7 a0_8 a0_9 a0_10)) else (reelkeeperref04_May.j0 k true a0_0 a0_1 a0_2 a0_3 a0_4 a0_5 a0_6 a0_7 a0_8 a0_9 a0_10)) else (reelkeeperref04_May.j0 k true a0_0 a0_1 a0_2 a0_3 a0_4 a0_5 a0_6 a0_7 a0_8 a0_9 a0_10)) else (reelkeeperref04_May.j0 k true a0_0 a0_1 a0_2 a0_3 a0_4 a0_5 a0_6 a0_7 a0_8 a0_9 a0_10)) else (reelkeeperref04_May.j0 k true a0_0 a0_1 a0_2 a0_3 a0_4 a0_5 a0_6 a0_7 a0_8 a0_9 a0_10)))))))))
theorem reelkeeperref04_May.mono_l : ∀ k, (∀ y0 y1 y2 y3 y4 y5 y6 y7 y8 y9 y10 y11, LeO (reelkeeperref04_May.j0 k y0 y1 y2 y3 y4 y5 y6 y7 y8 y9 y10 y11) (reelkeeperref04_May.j0 (k + 1) y0 y1 y2 y3 y4 y5 y6 y7 y8 y9 y10 y11)) ∧ (∀ y0 y1 y2 y3 y4 y5 y6 y7 y8 y9 y10 y11 y12, LeO (reelkeeperref04_May.j1 k y0 y1 y2 y3 y4 y5 y6 y7 y8 y9 y10 y11 y12) (reelkeeperref04_May.j1 (k + 1) y0 y1 y2 y3 y4 y5 y6 y7 y8 y9 y10 y11 y12))
  | 0 => ⟨fun _ _ _ _ _ _ _ _ _ _ _ _ r h => by simp [reelkeeperref04_May.j0] at h, fun _ _ _ _ _ _ _ _ _ _ _ _ _ r h => by simp [reelkeeperref04_May.j1] at h⟩
  | k + 1 => by
    obtain ⟨ih0, ih1⟩ := reelkeeperref04_May.mono_l k
    refine ⟨?_, ?_⟩
    · intro y0 y1 y2 y3 y4 y5 y6 y7 y8 y9 y10 y11
      unfold reelkeeperref04_May.j0
      repeat' first
      | (with_reducible exact ih0 _ _ _ _ _ _ _ _ _ _ _ _)
      | (with_reducible exact ih1 _ _ _ _ _ _ _ _ _ _ _ _ _)
      | (with_reducible exact reelkeeperref04_word.mono _ _ _)
      | (with_reducible exact LeO.refl _)
      | (with_reducible exact LeO.none _)
      | (with_reducible refine LeO.ite ?_ ?_)
      | (with_reducible refine LeO.bind ?_ (fun _ => ?_))
      | exact ih0 _ _ _ _ _ _ _ _ _ _ _ _
      | exact ih1 _ _ _ _ _ _ _ _ _ _ _ _ _
      | exact reelkeeperref04_word.mono _ _ _
      | exact LeO.none _
      | refine LeO.ite ?_ ?_
      | refine LeO.bind ?_ (fun _ => ?_)
    · intro y0 y1 y2 y3 y4 y5 y6 y7 y8 y9 y10 y11 y12
      unfold reelkeeperref04_May.j1
      repeat' first
      | (with_reducible exact ih0 _ _ _ _ _ _ _ _ _ _ _ _)
      | (with_reducible exact ih1 _ _ _ _ _ _ _ _ _ _ _ _ _)
      | (with_reducible exact reelkeeperref04_word.mono _ _ _)
      | (with_reducible exact LeO.refl _)
      | (with_reducible exact LeO.none _)
      | (with_reducible refine LeO.ite ?_ ?_)
      | (with_reducible refine LeO.bind ?_ (fun _ => ?_))
      | exact ih0 _ _ _ _ _ _ _ _ _ _ _ _
      | exact ih1 _ _ _ _ _ _ _ _ _ _ _ _ _
      | exact reelkeeperref04_word.mono _ _ _
      | exact LeO.none _
      | refine LeO.ite ?_ ?_
      | refine LeO.bind ?_ (fun _ => ?_)
theorem reelkeeperref04_May.mono : ∀ a0 a1 a2 a3 a4 a5 a6 a7 a8 a9 a10 k, LeO (reelkeeperref04_May.f k a0 a1 a2 a3 a4 a5 a6 a7 a8 a9 a10) (reelkeeperref04_May.f (k + 1) a0 a1 a2 a3 a4 a5 a6 a7 a8 a9 a10) := by
  intro a0 a1 a2 a3 a4 a5 a6 a7 a8 a9 a10 k
  obtain ⟨ih0, ih1⟩ := reelkeeperref04_May.mono_l k
  unfold reelkeeperref04_May.f
  repeat' first
      | (with_reducible exact ih0 _ _ _ _ _ _ _ _ _ _ _ _)
      | (with_reducible exact ih1 _ _ _ _ _ _ _ _ _ _ _ _ _)
      | (with_reducible exact reelkeeperref04_word.mono _ _ _)
      | (with_reducible exact LeO.refl _)
      | (with_reducible exact LeO.none _)
      | (with_reducible refine LeO.ite ?_ ?_)
      | (with_reducible refine LeO.bind ?_ (fun _ => ?_))
      | exact ih0 _ _ _ _ _ _ _ _ _ _ _ _
      | exact ih1 _ _ _ _ _ _ _ _ _ _ _ _ _
      | exact reelkeeperref04_word.mono _ _ _
      | exact LeO.none _
      | refine LeO.ite ?_ ?_
      | refine LeO.bind ?_ (fun _ => ?_)
set_option maxHeartbeats 8000000 in
set_option maxRecDepth 100000 in
theorem reelkeeperref04_May.calls (k : Nat) (a0_0 : ByteArray) (a0_1 : ByteArray) (a0_2 : ByteArray) (a0_3 : Int) (a0_4 : Int) (a0_5 : Int) (a0_6 : Int) (a0_7 : Int) (a0_8 : Int) (a0_9 : Int) (a0_10 : Int) (r : Bool) (w : World) (h : reelkeeperref04_May.f k a0_0 a0_1 a0_2 a0_3 a0_4 a0_5 a0_6 a0_7 a0_8 a0_9 a0_10 = some r) :
    Calls Try.prog 93 #[.agg #[.string a0_0, .string a0_1, .string a0_2, .int .i64 a0_3, .int .i64 a0_4, .int .i64 a0_5, .int .i64 a0_6, .int .i64 a0_7, .int .u8 a0_8, .int .i64 a0_9, .int .i64 a0_10]] w fun e w' => e = .returned (.bool r) ∧ Below w.heap.size w w' := by
  have hu71 := Try.underlying71
  have HB := Aside0.mk (Below.refl w.heap.size w)
  have H : ((reelkeeperref04_word.f k a0_0 100).bind fun t102 => ((reelkeeperref04_word.f k a0_2 100).bind fun t103 => ((reelkeeperref04_word.f k a0_1 155).bind fun t104 => ((reelkeeperref04_fits.f a0_3 8).bind fun t105 => ((reelkeeperref04_fits.f a0_4 8).bind fun t106 => ((reelkeeperref04_fits.f a0_5 8).bind fun t107 => ((reelkeeperref04_fits.f a0_6 12).bind fun t108 => ((reelkeeperref04_fits.f a0_7 12).bind fun t109 => (if t102 = true then (if t103 = true then (if t104 = true then (if t105 = true then (if t106 = true then (if t107 = true then (if t108 = true then (if t109 = true then (reelkeeperref04_May.j0 k (a0_0.toList == ([] : List UInt8)) a0_0 a0_1 a0_2 a0_3 a0_4 a0_5 a0_6 a0_7 a0_8 a0_9 a0_10) else (reelkeeperref04_May.j0 k true a0_0 a0_1 a0_2 a0_3 a0_4 a0_5 a0_6 a0_7 a0_8 a0_9 a0_10)) else (reelkeeperref04_May.j0 k true a0_0 a0_1 a0_2 a0_3 a0_4 a0_5 a0_6 a0_7 a0_8 a0_9 a0_10)) else (reelkeeperref04_May.j0 k true a0_0 a0_1 a0_2 a0_3 a0_4 a0_5 a0_6 a0_7 a0_8 a0_9 a0_10)) else (reelkeeperref04_May.j0 k true a0_0 a0_1 a0_2 a0_3 a0_4 a0_5 a0_6 a0_7 a0_8 a0_9 a0_10)) else (reelkeeperref04_May.j0 k true a0_0 a0_1 a0_2 a0_3 a0_4 a0_5 a0_6 a0_7 a0_8 a0_9 a0_10)) else (reelkeeperref04_May.j0 k true a0_0 a0_1 a0_2 a0_3 a0_4 a0_5 a0_6 a0_7 a0_8 a0_9 a0_10)) else (reelkeeperref04_May.j0 k true a0_0 a0_1 a0_2 a0_3 a0_4 a0_5 a0_6 a0_7 a0_8 a0_9 a0_10)) else (reelkeeperref04_May.j0 k true a0_0 a0_1 a0_2 a0_3 a0_4 a0_5 a0_6 a0_7 a0_8 a0_9 a0_10)))))))))) = some r := h
  clear h
  replace H := Option.bind_eq_some_iff.mp H
  obtain ⟨t102, A20, H⟩ := H
  replace H : ((reelkeeperref04_word.f k a0_2 100).bind fun t103 => ((reelkeeperref04_word.f k a0_1 155).bind fun t104 => ((reelkeeperref04_fits.f a0_3 8).bind fun t105 => ((reelkeeperref04_fits.f a0_4 8).bind fun t106 => ((reelkeeperref04_fits.f a0_5 8).bind fun t107 => ((reelkeeperref04_fits.f a0_6 12).bind fun t108 => ((reelkeeperref04_fits.f a0_7 12).bind fun t109 => (if t102 = true then (if t103 = true then (if t104 = true then (if t105 = true then (if t106 = true then (if t107 = true then (if t108 = true then (if t109 = true then (reelkeeperref04_May.j0 k (a0_0.toList == ([] : List UInt8)) a0_0 a0_1 a0_2 a0_3 a0_4 a0_5 a0_6 a0_7 a0_8 a0_9 a0_10) else (reelkeeperref04_May.j0 k true a0_0 a0_1 a0_2 a0_3 a0_4 a0_5 a0_6 a0_7 a0_8 a0_9 a0_10)) else (reelkeeperref04_May.j0 k true a0_0 a0_1 a0_2 a0_3 a0_4 a0_5 a0_6 a0_7 a0_8 a0_9 a0_10)) else (reelkeeperref04_May.j0 k true a0_0 a0_1 a0_2 a0_3 a0_4 a0_5 a0_6 a0_7 a0_8 a0_9 a0_10)) else (reelkeeperref04_May.j0 k true a0_0 a0_1 a0_2 a0_3 a0_4 a0_5 a0_6 a0_7 a0_8 a0_9 a0_10)) else (reelkeeperref04_May.j0 k true a0_0 a0_1 a0_2 a0_3 a0_4 a0_5 a0_6 a0_7 a0_8 a0_9 a0_10)) else (reelkeeperref04_May.j0 k true a0_0 a0_1 a0_2 a0_3 a0_4 a0_5 a0_6 a0_7 a0_8 a0_9 a0_10)) else (reelkeeperref04_May.j0 k true a0_0 a0_1 a0_2 a0_3 a0_4 a0_5 a0_6 a0_7 a0_8 a0_9 a0_10)) else (reelkeeperref04_May.j0 k true a0_0 a0_1 a0_2 a0_3 a0_4 a0_5 a0_6 a0_7 a0_8 a0_9 a0_10))))))))) = some r := H
  have A2 := Aside0.mk A20
  clear A20
  replace H := Option.bind_eq_some_iff.mp H
  obtain ⟨t103, A30, H⟩ := H
  replace H : ((reelkeeperref04_word.f k a0_1 155).bind fun t104 => ((reelkeeperref04_fits.f a0_3 8).bind fun t105 => ((reelkeeperref04_fits.f a0_4 8).bind fun t106 => ((reelkeeperref04_fits.f a0_5 8).bind fun t107 => ((reelkeeperref04_fits.f a0_6 12).bind fun t108 => ((reelkeeperref04_fits.f a0_7 12).bind fun t109 => (if t102 = true then (if t103 = true then (if t104 = true then (if t105 = true then (if t106 = true then (if t107 = true then (if t108 = true then (if t109 = true then (reelkeeperref04_May.j0 k (a0_0.toList == ([] : List UInt8)) a0_0 a0_1 a0_2 a0_3 a0_4 a0_5 a0_6 a0_7 a0_8 a0_9 a0_10) else (reelkeeperref04_May.j0 k true a0_0 a0_1 a0_2 a0_3 a0_4 a0_5 a0_6 a0_7 a0_8 a0_9 a0_10)) else (reelkeeperref04_May.j0 k true a0_0 a0_1 a0_2 a0_3 a0_4 a0_5 a0_6 a0_7 a0_8 a0_9 a0_10)) else (reelkeeperref04_May.j0 k true a0_0 a0_1 a0_2 a0_3 a0_4 a0_5 a0_6 a0_7 a0_8 a0_9 a0_10)) else (reelkeeperref04_May.j0 k true a0_0 a0_1 a0_2 a0_3 a0_4 a0_5 a0_6 a0_7 a0_8 a0_9 a0_10)) else (reelkeeperref04_May.j0 k true a0_0 a0_1 a0_2 a0_3 a0_4 a0_5 a0_6 a0_7 a0_8 a0_9 a0_10)) else (reelkeeperref04_May.j0 k true a0_0 a0_1 a0_2 a0_3 a0_4 a0_5 a0_6 a0_7 a0_8 a0_9 a0_10)) else (reelkeeperref04_May.j0 k true a0_0 a0_1 a0_2 a0_3 a0_4 a0_5 a0_6 a0_7 a0_8 a0_9 a0_10)) else (reelkeeperref04_May.j0 k true a0_0 a0_1 a0_2 a0_3 a0_4 a0_5 a0_6 a0_7 a0_8 a0_9 a0_10)))))))) = some r := H
  have A3 := Aside0.mk A30
  clear A30
  replace H := Option.bind_eq_some_iff.mp H
  obtain ⟨t104, A40, H⟩ := H
  replace H : ((reelkeeperref04_fits.f a0_3 8).bind fun t105 => ((reelkeeperref04_fits.f a0_4 8).bind fun t106 => ((reelkeeperref04_fits.f a0_5 8).bind fun t107 => ((reelkeeperref04_fits.f a0_6 12).bind fun t108 => ((reelkeeperref04_fits.f a0_7 12).bind fun t109 => (if t102 = true then (if t103 = true then (if t104 = true then (if t105 = true then (if t106 = true then (if t107 = true then (if t108 = true then (if t109 = true then (reelkeeperref04_May.j0 k (a0_0.toList == ([] : List UInt8)) a0_0 a0_1 a0_2 a0_3 a0_4 a0_5 a0_6 a0_7 a0_8 a0_9 a0_10) else (reelkeeperref04_May.j0 k true a0_0 a0_1 a0_2 a0_3 a0_4 a0_5 a0_6 a0_7 a0_8 a0_9 a0_10)) else (reelkeeperref04_May.j0 k true a0_0 a0_1 a0_2 a0_3 a0_4 a0_5 a0_6 a0_7 a0_8 a0_9 a0_10)) else (reelkeeperref04_May.j0 k true a0_0 a0_1 a0_2 a0_3 a0_4 a0_5 a0_6 a0_7 a0_8 a0_9 a0_10)) else (reelkeeperref04_May.j0 k true a0_0 a0_1 a0_2 a0_3 a0_4 a0_5 a0_6 a0_7 a0_8 a0_9 a0_10)) else (reelkeeperref04_May.j0 k true a0_0 a0_1 a0_2 a0_3 a0_4 a0_5 a0_6 a0_7 a0_8 a0_9 a0_10)) else (reelkeeperref04_May.j0 k true a0_0 a0_1 a0_2 a0_3 a0_4 a0_5 a0_6 a0_7 a0_8 a0_9 a0_10)) else (reelkeeperref04_May.j0 k true a0_0 a0_1 a0_2 a0_3 a0_4 a0_5 a0_6 a0_7 a0_8 a0_9 a0_10)) else (reelkeeperref04_May.j0 k true a0_0 a0_1 a0_2 a0_3 a0_4 a0_5 a0_6 a0_7 a0_8 a0_9 a0_10))))))) = some r := H
  have A4 := Aside0.mk A40
  clear A40
  replace H := Option.bind_eq_some_iff.mp H
  obtain ⟨t105, A50, H⟩ := H
  replace H : ((reelkeeperref04_fits.f a0_4 8).bind fun t106 => ((reelkeeperref04_fits.f a0_5 8).bind fun t107 => ((reelkeeperref04_fits.f a0_6 12).bind fun t108 => ((reelkeeperref04_fits.f a0_7 12).bind fun t109 => (if t102 = true then (if t103 = true then (if t104 = true then (if t105 = true then (if t106 = true then (if t107 = true then (if t108 = true then (if t109 = true then (reelkeeperref04_May.j0 k (a0_0.toList == ([] : List UInt8)) a0_0 a0_1 a0_2 a0_3 a0_4 a0_5 a0_6 a0_7 a0_8 a0_9 a0_10) else (reelkeeperref04_May.j0 k true a0_0 a0_1 a0_2 a0_3 a0_4 a0_5 a0_6 a0_7 a0_8 a0_9 a0_10)) else (reelkeeperref04_May.j0 k true a0_0 a0_1 a0_2 a0_3 a0_4 a0_5 a0_6 a0_7 a0_8 a0_9 a0_10)) else (reelkeeperref04_May.j0 k true a0_0 a0_1 a0_2 a0_3 a0_4 a0_5 a0_6 a0_7 a0_8 a0_9 a0_10)) else (reelkeeperref04_May.j0 k true a0_0 a0_1 a0_2 a0_3 a0_4 a0_5 a0_6 a0_7 a0_8 a0_9 a0_10)) else (reelkeeperref04_May.j0 k true a0_0 a0_1 a0_2 a0_3 a0_4 a0_5 a0_6 a0_7 a0_8 a0_9 a0_10)) else (reelkeeperref04_May.j0 k true a0_0 a0_1 a0_2 a0_3 a0_4 a0_5 a0_6 a0_7 a0_8 a0_9 a0_10)) else (reelkeeperref04_May.j0 k true a0_0 a0_1 a0_2 a0_3 a0_4 a0_5 a0_6 a0_7 a0_8 a0_9 a0_10)) else (reelkeeperref04_May.j0 k true a0_0 a0_1 a0_2 a0_3 a0_4 a0_5 a0_6 a0_7 a0_8 a0_9 a0_10)))))) = some r := H
  have A5 := Aside0.mk A50
  clear A50
  replace H := Option.bind_eq_some_iff.mp H
  obtain ⟨t106, A60, H⟩ := H
  replace H : ((reelkeeperref04_fits.f a0_5 8).bind fun t107 => ((reelkeeperref04_fits.f a0_6 12).bind fun t108 => ((reelkeeperref04_fits.f a0_7 12).bind fun t109 => (if t102 = true then (if t103 = true then (if t104 = true then (if t105 = true then (if t106 = true then (if t107 = true then (if t108 = true then (if t109 = true then (reelkeeperref04_May.j0 k (a0_0.toList == ([] : List UInt8)) a0_0 a0_1 a0_2 a0_3 a0_4 a0_5 a0_6 a0_7 a0_8 a0_9 a0_10) else (reelkeeperref04_May.j0 k true a0_0 a0_1 a0_2 a0_3 a0_4 a0_5 a0_6 a0_7 a0_8 a0_9 a0_10)) else (reelkeeperref04_May.j0 k true a0_0 a0_1 a0_2 a0_3 a0_4 a0_5 a0_6 a0_7 a0_8 a0_9 a0_10)) else (reelkeeperref04_May.j0 k true a0_0 a0_1 a0_2 a0_3 a0_4 a0_5 a0_6 a0_7 a0_8 a0_9 a0_10)) else (reelkeeperref04_May.j0 k true a0_0 a0_1 a0_2 a0_3 a0_4 a0_5 a0_6 a0_7 a0_8 a0_9 a0_10)) else (reelkeeperref04_May.j0 k true a0_0 a0_1 a0_2 a0_3 a0_4 a0_5 a0_6 a0_7 a0_8 a0_9 a0_10)) else (reelkeeperref04_May.j0 k true a0_0 a0_1 a0_2 a0_3 a0_4 a0_5 a0_6 a0_7 a0_8 a0_9 a0_10)) else (reelkeeperref04_May.j0 k true a0_0 a0_1 a0_2 a0_3 a0_4 a0_5 a0_6 a0_7 a0_8 a0_9 a0_10)) else (reelkeeperref04_May.j0 k true a0_0 a0_1 a0_2 a0_3 a0_4 a0_5 a0_6 a0_7 a0_8 a0_9 a0_10))))) = some r := H
  have A6 := Aside0.mk A60
  clear A60
  replace H := Option.bind_eq_some_iff.mp H
  obtain ⟨t107, A70, H⟩ := H
  replace H : ((reelkeeperref04_fits.f a0_6 12).bind fun t108 => ((reelkeeperref04_fits.f a0_7 12).bind fun t109 => (if t102 = true then (if t103 = true then (if t104 = true then (if t105 = true then (if t106 = true then (if t107 = true then (if t108 = true then (if t109 = true then (reelkeeperref04_May.j0 k (a0_0.toList == ([] : List UInt8)) a0_0 a0_1 a0_2 a0_3 a0_4 a0_5 a0_6 a0_7 a0_8 a0_9 a0_10) else (reelkeeperref04_May.j0 k true a0_0 a0_1 a0_2 a0_3 a0_4 a0_5 a0_6 a0_7 a0_8 a0_9 a0_10)) else (reelkeeperref04_May.j0 k true a0_0 a0_1 a0_2 a0_3 a0_4 a0_5 a0_6 a0_7 a0_8 a0_9 a0_10)) else (reelkeeperref04_May.j0 k true a0_0 a0_1 a0_2 a0_3 a0_4 a0_5 a0_6 a0_7 a0_8 a0_9 a0_10)) else (reelkeeperref04_May.j0 k true a0_0 a0_1 a0_2 a0_3 a0_4 a0_5 a0_6 a0_7 a0_8 a0_9 a0_10)) else (reelkeeperref04_May.j0 k true a0_0 a0_1 a0_2 a0_3 a0_4 a0_5 a0_6 a0_7 a0_8 a0_9 a0_10)) else (reelkeeperref04_May.j0 k true a0_0 a0_1 a0_2 a0_3 a0_4 a0_5 a0_6 a0_7 a0_8 a0_9 a0_10)) else (reelkeeperref04_May.j0 k true a0_0 a0_1 a0_2 a0_3 a0_4 a0_5 a0_6 a0_7 a0_8 a0_9 a0_10)) else (reelkeeperref04_May.j0 k true a0_0 a0_1 a0_2 a0_3 a0_4 a0_5 a0_6 a0_7 a0_8 a0_9 a0_10)))) = some r := H
  have A7 := Aside0.mk A70
  clear A70
  replace H := Option.bind_eq_some_iff.mp H
  obtain ⟨t108, A80, H⟩ := H
  replace H : ((reelkeeperref04_fits.f a0_7 12).bind fun t109 => (if t102 = true then (if t103 = true then (if t104 = true then (if t105 = true then (if t106 = true then (if t107 = true then (if t108 = true then (if t109 = true then (reelkeeperref04_May.j0 k (a0_0.toList == ([] : List UInt8)) a0_0 a0_1 a0_2 a0_3 a0_4 a0_5 a0_6 a0_7 a0_8 a0_9 a0_10) else (reelkeeperref04_May.j0 k true a0_0 a0_1 a0_2 a0_3 a0_4 a0_5 a0_6 a0_7 a0_8 a0_9 a0_10)) else (reelkeeperref04_May.j0 k true a0_0 a0_1 a0_2 a0_3 a0_4 a0_5 a0_6 a0_7 a0_8 a0_9 a0_10)) else (reelkeeperref04_May.j0 k true a0_0 a0_1 a0_2 a0_3 a0_4 a0_5 a0_6 a0_7 a0_8 a0_9 a0_10)) else (reelkeeperref04_May.j0 k true a0_0 a0_1 a0_2 a0_3 a0_4 a0_5 a0_6 a0_7 a0_8 a0_9 a0_10)) else (reelkeeperref04_May.j0 k true a0_0 a0_1 a0_2 a0_3 a0_4 a0_5 a0_6 a0_7 a0_8 a0_9 a0_10)) else (reelkeeperref04_May.j0 k true a0_0 a0_1 a0_2 a0_3 a0_4 a0_5 a0_6 a0_7 a0_8 a0_9 a0_10)) else (reelkeeperref04_May.j0 k true a0_0 a0_1 a0_2 a0_3 a0_4 a0_5 a0_6 a0_7 a0_8 a0_9 a0_10)) else (reelkeeperref04_May.j0 k true a0_0 a0_1 a0_2 a0_3 a0_4 a0_5 a0_6 a0_7 a0_8 a0_9 a0_10))) = some r := H
  have A8 := Aside0.mk A80
  clear A80
  replace H := Option.bind_eq_some_iff.mp H
  obtain ⟨t109, A90, H⟩ := H
  replace H : (if t102 = true then (if t103 = true then (if t104 = true then (if t105 = true then (if t106 = true then (if t107 = true then (if t108 = true then (if t109 = true then (reelkeeperref04_May.j0 k (a0_0.toList == ([] : List UInt8)) a0_0 a0_1 a0_2 a0_3 a0_4 a0_5 a0_6 a0_7 a0_8 a0_9 a0_10) else (reelkeeperref04_May.j0 k true a0_0 a0_1 a0_2 a0_3 a0_4 a0_5 a0_6 a0_7 a0_8 a0_9 a0_10)) else (reelkeeperref04_May.j0 k true a0_0 a0_1 a0_2 a0_3 a0_4 a0_5 a0_6 a0_7 a0_8 a0_9 a0_10)) else (reelkeeperref04_May.j0 k true a0_0 a0_1 a0_2 a0_3 a0_4 a0_5 a0_6 a0_7 a0_8 a0_9 a0_10)) else (reelkeeperref04_May.j0 k true a0_0 a0_1 a0_2 a0_3 a0_4 a0_5 a0_6 a0_7 a0_8 a0_9 a0_10)) else (reelkeeperref04_May.j0 k true a0_0 a0_1 a0_2 a0_3 a0_4 a0_5 a0_6 a0_7 a0_8 a0_9 a0_10)) else (reelkeeperref04_May.j0 k true a0_0 a0_1 a0_2 a0_3 a0_4 a0_5 a0_6 a0_7 a0_8 a0_9 a0_10)) else (reelkeeperref04_May.j0 k true a0_0 a0_1 a0_2 a0_3 a0_4 a0_5 a0_6 a0_7 a0_8 a0_9 a0_10)) else (reelkeeperref04_May.j0 k true a0_0 a0_1 a0_2 a0_3 a0_4 a0_5 a0_6 a0_7 a0_8 a0_9 a0_10)) = some r := H
  have A9 := Aside0.mk A90
  clear A90
  have HC10 := Aside0.mk H
  clear H
  go_enter Try.func93, Try.ntmps93
  go_upto_region 9 with (first | ((with_reducible refine gate_dst (N := 1) rfl ?_); refine box_event ?hg (N := 1) ?hd (cs := #[.string a0_0, .string a0_1, .string a0_2, .int .i64 a0_3, .int .i64 a0_4, .int .i64 a0_5, .int .i64 a0_6, .int .i64 a0_7, .int .u8 a0_8, .int .i64 a0_9, .int .i64 a0_10]) (t := 71) ?hr ?_; (case hd => rfl); (case hg => rfl); (case hr => first | (go_simp; done) | (go_simp; rfl)); intro gb101 hg w11 hbox hb; have n0_ := Aside0.mk (below_step (by repeat (first | (with_reducible first | exact HB.out | apply below_alloc | apply pw_below_drewN | apply below_drew1) | exact HB.out)) hb); have n1_ := Aside0.mk (hbox); have n2_ := Aside0.mk ((by rw [hg]; exact (below_size (by repeat (first | (with_reducible first | exact HB.out | apply below_alloc | apply pw_below_drewN | apply below_drew1) | exact HB.out))) : w.heap.size ≤ gb101)); have n3_ := Aside0.mk ((by rw [hg]; exact (below_size (by repeat (first | (with_reducible first | exact HB.out | apply below_alloc | apply pw_below_drewN | apply below_drew1) | exact HB.out))) : w.heap.size ≤ gb101)); clear HB; have HB := n0_; have BK101 := n1_; have GW101 := n2_; have GE101 := n3_; clear n0_ n1_ n2_ n3_; clear hb hbox hg; have hcz12_0 : w11.cell? ⟨gb101, 0, none⟩ = some (.string a0_0) := (blk_cell BK101.out 0).trans rfl; have hcz12_1 : w11.cell? ⟨gb101, 1, none⟩ = some (.string a0_1) := (blk_cell BK101.out 1).trans rfl; have hcz12_2 : w11.cell? ⟨gb101, 2, none⟩ = some (.string a0_2) := (blk_cell BK101.out 2).trans rfl; have hcz12_3 : w11.cell? ⟨gb101, 3, none⟩ = some (.int .i64 a0_3) := (blk_cell BK101.out 3).trans rfl; have hcz12_4 : w11.cell? ⟨gb101, 4, none⟩ = some (.int .i64 a0_4) := (blk_cell BK101.out 4).trans rfl; have hcz12_5 : w11.cell? ⟨gb101, 5, none⟩ = some (.int .i64 a0_5) := (blk_cell BK101.out 5).trans rfl; have hcz12_6 : w11.cell? ⟨gb101, 6, none⟩ = some (.int .i64 a0_6) := (blk_cell BK101.out 6).trans rfl; have hcz12_7 : w11.cell? ⟨gb101, 7, none⟩ = some (.int .i64 a0_7) := (blk_cell BK101.out 7).trans rfl; have hcz12_8 : w11.cell? ⟨gb101, 8, none⟩ = some (.int .u8 a0_8) := (blk_cell BK101.out 8).trans rfl; have hcz12_9 : w11.cell? ⟨gb101, 9, none⟩ = some (.int .i64 a0_9) := (blk_cell BK101.out 9).trans rfl; have hcz12_10 : w11.cell? ⟨gb101, 10, none⟩ = some (.int .i64 a0_10) := (blk_cell BK101.out 10).trans rfl; have hfz12_0 := blk_frozen BK101.out 0; have hfz12_1 := blk_frozen BK101.out 1; have hfz12_2 := blk_frozen BK101.out 2; have hfz12_3 := blk_frozen BK101.out 3; have hfz12_4 := blk_frozen BK101.out 4; have hfz12_5 := blk_frozen BK101.out 5; have hfz12_6 := blk_frozen BK101.out 6; have hfz12_7 := blk_frozen BK101.out 7; have hfz12_8 := blk_frozen BK101.out 8; have hfz12_9 := blk_frozen BK101.out 9; have hfz12_10 := blk_frozen BK101.out 10) | ((with_reducible refine gate_callee (f := 107) rfl ?_); refine goesL_ (some 15) rfl rfl Try.func107 (by kernel_rfl) rfl #[.string a0_0, .int .i64 100] rfl (by (try simp only [List.map_toArray, List.map_cons, List.map_nil]); first | done | rfl | (simp only [List.length_drop, List.length_take]; rfl)) ?_; (with_reducible refine (reelkeeperref04_word.calls k a0_0 100 t102 _ A2.out).mono ?_); rintro e w' ⟨rfl, ⟨nd, rfl⟩⟩; refine ⟨_, rfl, ?_⟩) | ((with_reducible refine gate_callee (f := 107) rfl ?_); refine goesL_ (some 18) rfl rfl Try.func107 (by kernel_rfl) rfl #[.string a0_2, .int .i64 100] rfl (by (try simp only [List.map_toArray, List.map_cons, List.map_nil]); first | done | rfl | (simp only [List.length_drop, List.length_take]; rfl)) ?_; (with_reducible refine (reelkeeperref04_word.calls k a0_2 100 t103 _ A3.out).mono ?_); rintro e w' ⟨rfl, ⟨nd, rfl⟩⟩; refine ⟨_, rfl, ?_⟩) | ((with_reducible refine gate_callee (f := 107) rfl ?_); refine goesL_ (some 21) rfl rfl Try.func107 (by kernel_rfl) rfl #[.string a0_1, .int .i64 155] rfl (by (try simp only [List.map_toArray, List.map_cons, List.map_nil]); first | done | rfl | (simp only [List.length_drop, List.length_take]; rfl)) ?_; (with_reducible refine (reelkeeperref04_word.calls k a0_1 155 t104 _ A4.out).mono ?_); rintro e w' ⟨rfl, ⟨nd, rfl⟩⟩; refine ⟨_, rfl, ?_⟩) | ((with_reducible refine gate_callee (f := 108) rfl ?_); refine goesL_ (some 24) rfl rfl Try.func108 (by kernel_rfl) rfl #[.int .i64 a0_3, .int .i64 8] rfl (by (try simp only [List.map_toArray, List.map_cons, List.map_nil]); first | done | rfl | (simp only [List.length_drop, List.length_take]; rfl)) ?_; (with_reducible refine (reelkeeperref04_fits.calls a0_3 8 t105 _ A5.out).mono ?_); rintro e w13 ⟨rfl, hb⟩; refine ⟨_, rfl, ?_⟩; have n0_ := Aside0.mk (blk_below (g := gb101) (o := .cells #[.string a0_0, .string a0_1, .string a0_2, .int .i64 a0_3, .int .i64 a0_4, .int .i64 a0_5, .int .i64 a0_6, .int .i64 a0_7, .int .u8 a0_8, .int .i64 a0_9, .int .i64 a0_10] 71 (0, 0)) (by (with_reducible repeat (first | refine blk_drewN ?_ _ | refine blk_drew ?_ | refine blk_alloc ?_ _)); exact BK101.out) hb); have n1_ := Aside0.mk (below_step (by repeat (first | (with_reducible first | exact HB.out | apply below_alloc | apply pw_below_drewN | apply below_drew1 | refine below_set ?_ GE101.out) | exact HB.out)) hb); clear BK101; clear HB; have BK101 := n0_; have HB := n1_; clear n0_ n1_; (try clear hb); (try clear hb2); (try clear hk); (try clear hi); have hcz14_0 : w13.cell? ⟨gb101, 0, none⟩ = some (.string a0_0) := (blk_cell BK101.out 0).trans rfl; have hcz14_1 : w13.cell? ⟨gb101, 1, none⟩ = some (.string a0_1) := (blk_cell BK101.out 1).trans rfl; have hcz14_2 : w13.cell? ⟨gb101, 2, none⟩ = some (.string a0_2) := (blk_cell BK101.out 2).trans rfl; have hcz14_3 : w13.cell? ⟨gb101, 3, none⟩ = some (.int .i64 a0_3) := (blk_cell BK101.out 3).trans rfl; have hcz14_4 : w13.cell? ⟨gb101, 4, none⟩ = some (.int .i64 a0_4) := (blk_cell BK101.out 4).trans rfl; have hcz14_5 : w13.cell? ⟨gb101, 5, none⟩ = some (.int .i64 a0_5) := (blk_cell BK101.out 5).trans rfl; have hcz14_6 : w13.cell? ⟨gb101, 6, none⟩ = some (.int .i64 a0_6) := (blk_cell BK101.out 6).trans rfl; have hcz14_7 : w13.cell? ⟨gb101, 7, none⟩ = some (.int .i64 a0_7) := (blk_cell BK101.out 7).trans rfl; have hcz14_8 : w13.cell? ⟨gb101, 8, none⟩ = some (.int .u8 a0_8) := (blk_cell BK101.out 8).trans rfl; have hcz14_9 : w13.cell? ⟨gb101, 9, none⟩ = some (.int .i64 a0_9) := (blk_cell BK101.out 9).trans rfl; have hcz14_10 : w13.cell? ⟨gb101, 10, none⟩ = some (.int .i64 a0_10) := (blk_cell BK101.out 10).trans rfl; have hfz14_0 := blk_frozen BK101.out 0; have hfz14_1 := blk_frozen BK101.out 1; have hfz14_2 := blk_frozen BK101.out 2; have hfz14_3 := blk_frozen BK101.out 3; have hfz14_4 := blk_frozen BK101.out 4; have hfz14_5 := blk_frozen BK101.out 5; have hfz14_6 := blk_frozen BK101.out 6; have hfz14_7 := blk_frozen BK101.out 7; have hfz14_8 := blk_frozen BK101.out 8; have hfz14_9 := blk_frozen BK101.out 9; have hfz14_10 := blk_frozen BK101.out 10) | ((with_reducible refine gate_callee (f := 108) rfl ?_); refine goesL_ (some 27) rfl rfl Try.func108 (by kernel_rfl) rfl #[.int .i64 a0_4, .int .i64 8] rfl (by (try simp only [List.map_toArray, List.map_cons, List.map_nil]); first | done | rfl | (simp only [List.length_drop, List.length_take]; rfl)) ?_; (with_reducible refine (reelkeeperref04_fits.calls a0_4 8 t106 _ A6.out).mono ?_); rintro e w15 ⟨rfl, hb⟩; refine ⟨_, rfl, ?_⟩; have n0_ := Aside0.mk (blk_below (g := gb101) (o := .cells #[.string a0_0, .string a0_1, .string a0_2, .int .i64 a0_3, .int .i64 a0_4, .int .i64 a0_5, .int .i64 a0_6, .int .i64 a0_7, .int .u8 a0_8, .int .i64 a0_9, .int .i64 a0_10] 71 (0, 0)) (by (with_reducible repeat (first | refine blk_drewN ?_ _ | refine blk_drew ?_ | refine blk_alloc ?_ _)); exact BK101.out) hb); have n1_ := Aside0.mk (below_step (by repeat (first | (with_reducible first | exact HB.out | apply below_alloc | apply pw_below_drewN | apply below_drew1 | refine below_set ?_ GE101.out) | exact HB.out)) hb); clear BK101; clear HB; have BK101 := n0_; have HB := n1_; clear n0_ n1_; (try clear hb); (try clear hb2); (try clear hk); (try clear hi); have hcz16_0 : w15.cell? ⟨gb101, 0, none⟩ = some (.string a0_0) := (blk_cell BK101.out 0).trans rfl; have hcz16_1 : w15.cell? ⟨gb101, 1, none⟩ = some (.string a0_1) := (blk_cell BK101.out 1).trans rfl; have hcz16_2 : w15.cell? ⟨gb101, 2, none⟩ = some (.string a0_2) := (blk_cell BK101.out 2).trans rfl; have hcz16_3 : w15.cell? ⟨gb101, 3, none⟩ = some (.int .i64 a0_3) := (blk_cell BK101.out 3).trans rfl; have hcz16_4 : w15.cell? ⟨gb101, 4, none⟩ = some (.int .i64 a0_4) := (blk_cell BK101.out 4).trans rfl; have hcz16_5 : w15.cell? ⟨gb101, 5, none⟩ = some (.int .i64 a0_5) := (blk_cell BK101.out 5).trans rfl; have hcz16_6 : w15.cell? ⟨gb101, 6, none⟩ = some (.int .i64 a0_6) := (blk_cell BK101.out 6).trans rfl; have hcz16_7 : w15.cell? ⟨gb101, 7, none⟩ = some (.int .i64 a0_7) := (blk_cell BK101.out 7).trans rfl; have hcz16_8 : w15.cell? ⟨gb101, 8, none⟩ = some (.int .u8 a0_8) := (blk_cell BK101.out 8).trans rfl; have hcz16_9 : w15.cell? ⟨gb101, 9, none⟩ = some (.int .i64 a0_9) := (blk_cell BK101.out 9).trans rfl; have hcz16_10 : w15.cell? ⟨gb101, 10, none⟩ = some (.int .i64 a0_10) := (blk_cell BK101.out 10).trans rfl; have hfz16_0 := blk_frozen BK101.out 0; have hfz16_1 := blk_frozen BK101.out 1; have hfz16_2 := blk_frozen BK101.out 2; have hfz16_3 := blk_frozen BK101.out 3; have hfz16_4 := blk_frozen BK101.out 4; have hfz16_5 := blk_frozen BK101.out 5; have hfz16_6 := blk_frozen BK101.out 6; have hfz16_7 := blk_frozen BK101.out 7; have hfz16_8 := blk_frozen BK101.out 8; have hfz16_9 := blk_frozen BK101.out 9; have hfz16_10 := blk_frozen BK101.out 10) | ((with_reducible refine gate_callee (f := 108) rfl ?_); refine goesL_ (some 30) rfl rfl Try.func108 (by kernel_rfl) rfl #[.int .i64 a0_5, .int .i64 8] rfl (by (try simp only [List.map_toArray, List.map_cons, List.map_nil]); first | done | rfl | (simp only [List.length_drop, List.length_take]; rfl)) ?_; (with_reducible refine (reelkeeperref04_fits.calls a0_5 8 t107 _ A7.out).mono ?_); rintro e w17 ⟨rfl, hb⟩; refine ⟨_, rfl, ?_⟩; have n0_ := Aside0.mk (blk_below (g := gb101) (o := .cells #[.string a0_0, .string a0_1, .string a0_2, .int .i64 a0_3, .int .i64 a0_4, .int .i64 a0_5, .int .i64 a0_6, .int .i64 a0_7, .int .u8 a0_8, .int .i64 a0_9, .int .i64 a0_10] 71 (0, 0)) (by (with_reducible repeat (first | refine blk_drewN ?_ _ | refine blk_drew ?_ | refine blk_alloc ?_ _)); exact BK101.out) hb); have n1_ := Aside0.mk (below_step (by repeat (first | (with_reducible first | exact HB.out | apply below_alloc | apply pw_below_drewN | apply below_drew1 | refine below_set ?_ GE101.out) | exact HB.out)) hb); clear BK101; clear HB; have BK101 := n0_; have HB := n1_; clear n0_ n1_; (try clear hb); (try clear hb2); (try clear hk); (try clear hi); have hcz18_0 : w17.cell? ⟨gb101, 0, none⟩ = some (.string a0_0) := (blk_cell BK101.out 0).trans rfl; have hcz18_1 : w17.cell? ⟨gb101, 1, none⟩ = some (.string a0_1) := (blk_cell BK101.out 1).trans rfl; have hcz18_2 : w17.cell? ⟨gb101, 2, none⟩ = some (.string a0_2) := (blk_cell BK101.out 2).trans rfl; have hcz18_3 : w17.cell? ⟨gb101, 3, none⟩ = some (.int .i64 a0_3) := (blk_cell BK101.out 3).trans rfl; have hcz18_4 : w17.cell? ⟨gb101, 4, none⟩ = some (.int .i64 a0_4) := (blk_cell BK101.out 4).trans rfl; have hcz18_5 : w17.cell? ⟨gb101, 5, none⟩ = some (.int .i64 a0_5) := (blk_cell BK101.out 5).trans rfl; have hcz18_6 : w17.cell? ⟨gb101, 6, none⟩ = some (.int .i64 a0_6) := (blk_cell BK101.out 6).trans rfl; have hcz18_7 : w17.cell? ⟨gb101, 7, none⟩ = some (.int .i64 a0_7) := (blk_cell BK101.out 7).trans rfl; have hcz18_8 : w17.cell? ⟨gb101, 8, none⟩ = some (.int .u8 a0_8) := (blk_cell BK101.out 8).trans rfl; have hcz18_9 : w17.cell? ⟨gb101, 9, none⟩ = some (.int .i64 a0_9) := (blk_cell BK101.out 9).trans rfl; have hcz18_10 : w17.cell? ⟨gb101, 10, none⟩ = some (.int .i64 a0_10) := (blk_cell BK101.out 10).trans rfl; have hfz18_0 := blk_frozen BK101.out 0; have hfz18_1 := blk_frozen BK101.out 1; have hfz18_2 := blk_frozen BK101.out 2; have hfz18_3 := blk_frozen BK101.out 3; have hfz18_4 := blk_frozen BK101.out 4; have hfz18_5 := blk_frozen BK101.out 5; have hfz18_6 := blk_frozen BK101.out 6; have hfz18_7 := blk_frozen BK101.out 7; have hfz18_8 := blk_frozen BK101.out 8; have hfz18_9 := blk_frozen BK101.out 9; have hfz18_10 := blk_frozen BK101.out 10) | ((with_reducible refine gate_callee (f := 108) rfl ?_); refine goesL_ (some 33) rfl rfl Try.func108 (by kernel_rfl) rfl #[.int .i64 a0_6, .int .i64 12] rfl (by (try simp only [List.map_toArray, List.map_cons, List.map_nil]); first | done | rfl | (simp only [List.length_drop, List.length_take]; rfl)) ?_; (with_reducible refine (reelkeeperref04_fits.calls a0_6 12 t108 _ A8.out).mono ?_); rintro e w19 ⟨rfl, hb⟩; refine ⟨_, rfl, ?_⟩; have n0_ := Aside0.mk (blk_below (g := gb101) (o := .cells #[.string a0_0, .string a0_1, .string a0_2, .int .i64 a0_3, .int .i64 a0_4, .int .i64 a0_5, .int .i64 a0_6, .int .i64 a0_7, .int .u8 a0_8, .int .i64 a0_9, .int .i64 a0_10] 71 (0, 0)) (by (with_reducible repeat (first | refine blk_drewN ?_ _ | refine blk_drew ?_ | refine blk_alloc ?_ _)); exact BK101.out) hb); have n1_ := Aside0.mk (below_step (by repeat (first | (with_reducible first | exact HB.out | apply below_alloc | apply pw_below_drewN | apply below_drew1 | refine below_set ?_ GE101.out) | exact HB.out)) hb); clear BK101; clear HB; have BK101 := n0_; have HB := n1_; clear n0_ n1_; (try clear hb); (try clear hb2); (try clear hk); (try clear hi); have hcz20_0 : w19.cell? ⟨gb101, 0, none⟩ = some (.string a0_0) := (blk_cell BK101.out 0).trans rfl; have hcz20_1 : w19.cell? ⟨gb101, 1, none⟩ = some (.string a0_1) := (blk_cell BK101.out 1).trans rfl; have hcz20_2 : w19.cell? ⟨gb101, 2, none⟩ = some (.string a0_2) := (blk_cell BK101.out 2).trans rfl; have hcz20_3 : w19.cell? ⟨gb101, 3, none⟩ = some (.int .i64 a0_3) := (blk_cell BK101.out 3).trans rfl; have hcz20_4 : w19.cell? ⟨gb101, 4, none⟩ = some (.int .i64 a0_4) := (blk_cell BK101.out 4).trans rfl; have hcz20_5 : w19.cell? ⟨gb101, 5, none⟩ = some (.int .i64 a0_5) := (blk_cell BK101.out 5).trans rfl; have hcz20_6 : w19.cell? ⟨gb101, 6, none⟩ = some (.int .i64 a0_6) := (blk_cell BK101.out 6).trans rfl; have hcz20_7 : w19.cell? ⟨gb101, 7, none⟩ = some (.int .i64 a0_7) := (blk_cell BK101.out 7).trans rfl; have hcz20_8 : w19.cell? ⟨gb101, 8, none⟩ = some (.int .u8 a0_8) := (blk_cell BK101.out 8).trans rfl; have hcz20_9 : w19.cell? ⟨gb101, 9, none⟩ = some (.int .i64 a0_9) := (blk_cell BK101.out 9).trans rfl; have hcz20_10 : w19.cell? ⟨gb101, 10, none⟩ = some (.int .i64 a0_10) := (blk_cell BK101.out 10).trans rfl; have hfz20_0 := blk_frozen BK101.out 0; have hfz20_1 := blk_frozen BK101.out 1; have hfz20_2 := blk_frozen BK101.out 2; have hfz20_3 := blk_frozen BK101.out 3; have hfz20_4 := blk_frozen BK101.out 4; have hfz20_5 := blk_frozen BK101.out 5; have hfz20_6 := blk_frozen BK101.out 6; have hfz20_7 := blk_frozen BK101.out 7; have hfz20_8 := blk_frozen BK101.out 8; have hfz20_9 := blk_frozen BK101.out 9; have hfz20_10 := blk_frozen BK101.out 10) | ((with_reducible refine gate_callee (f := 108) rfl ?_); refine goesL_ (some 36) rfl rfl Try.func108 (by kernel_rfl) rfl #[.int .i64 a0_7, .int .i64 12] rfl (by (try simp only [List.map_toArray, List.map_cons, List.map_nil]); first | done | rfl | (simp only [List.length_drop, List.length_take]; rfl)) ?_; (with_reducible refine (reelkeeperref04_fits.calls a0_7 12 t109 _ A9.out).mono ?_); rintro e w21 ⟨rfl, hb⟩; refine ⟨_, rfl, ?_⟩; have n0_ := Aside0.mk (blk_below (g := gb101) (o := .cells #[.string a0_0, .string a0_1, .string a0_2, .int .i64 a0_3, .int .i64 a0_4, .int .i64 a0_5, .int .i64 a0_6, .int .i64 a0_7, .int .u8 a0_8, .int .i64 a0_9, .int .i64 a0_10] 71 (0, 0)) (by (with_reducible repeat (first | refine blk_drewN ?_ _ | refine blk_drew ?_ | refine blk_alloc ?_ _)); exact BK101.out) hb); have n1_ := Aside0.mk (below_step (by repeat (first | (with_reducible first | exact HB.out | apply below_alloc | apply pw_below_drewN | apply below_drew1 | refine below_set ?_ GE101.out) | exact HB.out)) hb); clear BK101; clear HB; have BK101 := n0_; have HB := n1_; clear n0_ n1_; (try clear hb); (try clear hb2); (try clear hk); (try clear hi)))
  (try simp only [Act.put, List.setIfInBounds_toArray, List.set_cons_zero, List.set_cons_succ])
  go_cut [71] (fun v71 wc => ∃ (kq : Nat) (x71_9 : Bool), v71 = .bool x71_9 ∧ Aside0 (reelkeeperref04_May.j0 kq x71_9 a0_0 a0_1 a0_2 a0_3 a0_4 a0_5 a0_6 a0_7 a0_8 a0_9 a0_10 = some r) ∧ Aside0 (kq ≤ k) ∧ Aside0 (wc.heap[gb101]? = some (.cells #[.string a0_0, .string a0_1, .string a0_2, .int .i64 a0_3, .int .i64 a0_4, .int .i64 a0_5, .int .i64 a0_6, .int .i64 a0_7, .int .u8 a0_8, .int .i64 a0_9, .int .i64 a0_10] 71 (0, 0))) ∧ Aside0 (Below w.heap.size w wc))
  case first =>
    have H := HC10.out
    clear HC10
    by_cases c22 : t102 = true
    · subst c22
      have H1 : (if t103 = true then (if t104 = true then (if t105 = true then (if t106 = true then (if t107 = true then (if t108 = true then (if t109 = true then (reelkeeperref04_May.j0 k (a0_0.toList == ([] : List UInt8)) a0_0 a0_1 a0_2 a0_3 a0_4 a0_5 a0_6 a0_7 a0_8 a0_9 a0_10) else (reelkeeperref04_May.j0 k true a0_0 a0_1 a0_2 a0_3 a0_4 a0_5 a0_6 a0_7 a0_8 a0_9 a0_10)) else (reelkeeperref04_May.j0 k true a0_0 a0_1 a0_2 a0_3 a0_4 a0_5 a0_6 a0_7 a0_8 a0_9 a0_10)) else (reelkeeperref04_May.j0 k true a0_0 a0_1 a0_2 a0_3 a0_4 a0_5 a0_6 a0_7 a0_8 a0_9 a0_10)) else (reelkeeperref04_May.j0 k true a0_0 a0_1 a0_2 a0_3 a0_4 a0_5 a0_6 a0_7 a0_8 a0_9 a0_10)) else (reelkeeperref04_May.j0 k true a0_0 a0_1 a0_2 a0_3 a0_4 a0_5 a0_6 a0_7 a0_8 a0_9 a0_10)) else (reelkeeperref04_May.j0 k true a0_0 a0_1 a0_2 a0_3 a0_4 a0_5 a0_6 a0_7 a0_8 a0_9 a0_10)) else (reelkeeperref04_May.j0 k true a0_0 a0_1 a0_2 a0_3 a0_4 a0_5 a0_6 a0_7 a0_8 a0_9 a0_10)) = some r := by rw [if_pos rfl] at H; exact H
      clear H
      have H := H1
      clear H1
      by_cases c23 : t103 = true
      · subst c23
        have H1 : (if t104 = true then (if t105 = true then (if t106 = true then (if t107 = true then (if t108 = true then (if t109 = true then (reelkeeperref04_May.j0 k (a0_0.toList == ([] : List UInt8)) a0_0 a0_1 a0_2 a0_3 a0_4 a0_5 a0_6 a0_7 a0_8 a0_9 a0_10) else (reelkeeperref04_May.j0 k true a0_0 a0_1 a0_2 a0_3 a0_4 a0_5 a0_6 a0_7 a0_8 a0_9 a0_10)) else (reelkeeperref04_May.j0 k true a0_0 a0_1 a0_2 a0_3 a0_4 a0_5 a0_6 a0_7 a0_8 a0_9 a0_10)) else (reelkeeperref04_May.j0 k true a0_0 a0_1 a0_2 a0_3 a0_4 a0_5 a0_6 a0_7 a0_8 a0_9 a0_10)) else (reelkeeperref04_May.j0 k true a0_0 a0_1 a0_2 a0_3 a0_4 a0_5 a0_6 a0_7 a0_8 a0_9 a0_10)) else (reelkeeperref04_May.j0 k true a0_0 a0_1 a0_2 a0_3 a0_4 a0_5 a0_6 a0_7 a0_8 a0_9 a0_10)) else (reelkeeperref04_May.j0 k true a0_0 a0_1 a0_2 a0_3 a0_4 a0_5 a0_6 a0_7 a0_8 a0_9 a0_10)) = some r := by rw [if_pos rfl] at H; exact H
        clear H
        have H := H1
        clear H1
        by_cases c24 : t104 = true
        · subst c24
          have H1 : (if t105 = true then (if t106 = true then (if t107 = true then (if t108 = true then (if t109 = true then (reelkeeperref04_May.j0 k (a0_0.toList == ([] : List UInt8)) a0_0 a0_1 a0_2 a0_3 a0_4 a0_5 a0_6 a0_7 a0_8 a0_9 a0_10) else (reelkeeperref04_May.j0 k true a0_0 a0_1 a0_2 a0_3 a0_4 a0_5 a0_6 a0_7 a0_8 a0_9 a0_10)) else (reelkeeperref04_May.j0 k true a0_0 a0_1 a0_2 a0_3 a0_4 a0_5 a0_6 a0_7 a0_8 a0_9 a0_10)) else (reelkeeperref04_May.j0 k true a0_0 a0_1 a0_2 a0_3 a0_4 a0_5 a0_6 a0_7 a0_8 a0_9 a0_10)) else (reelkeeperref04_May.j0 k true a0_0 a0_1 a0_2 a0_3 a0_4 a0_5 a0_6 a0_7 a0_8 a0_9 a0_10)) else (reelkeeperref04_May.j0 k true a0_0 a0_1 a0_2 a0_3 a0_4 a0_5 a0_6 a0_7 a0_8 a0_9 a0_10)) = some r := by rw [if_pos rfl] at H; exact H
          clear H
          have H := H1
          clear H1
          by_cases c25 : t105 = true
          · subst c25
            have H1 : (if t106 = true then (if t107 = true then (if t108 = true then (if t109 = true then (reelkeeperref04_May.j0 k (a0_0.toList == ([] : List UInt8)) a0_0 a0_1 a0_2 a0_3 a0_4 a0_5 a0_6 a0_7 a0_8 a0_9 a0_10) else (reelkeeperref04_May.j0 k true a0_0 a0_1 a0_2 a0_3 a0_4 a0_5 a0_6 a0_7 a0_8 a0_9 a0_10)) else (reelkeeperref04_May.j0 k true a0_0 a0_1 a0_2 a0_3 a0_4 a0_5 a0_6 a0_7 a0_8 a0_9 a0_10)) else (reelkeeperref04_May.j0 k true a0_0 a0_1 a0_2 a0_3 a0_4 a0_5 a0_6 a0_7 a0_8 a0_9 a0_10)) else (reelkeeperref04_May.j0 k true a0_0 a0_1 a0_2 a0_3 a0_4 a0_5 a0_6 a0_7 a0_8 a0_9 a0_10)) = some r := by rw [if_pos rfl] at H; exact H
            clear H
            have H := H1
            clear H1
            by_cases c26 : t106 = true
            · subst c26
              have H1 : (if t107 = true then (if t108 = true then (if t109 = true then (reelkeeperref04_May.j0 k (a0_0.toList == ([] : List UInt8)) a0_0 a0_1 a0_2 a0_3 a0_4 a0_5 a0_6 a0_7 a0_8 a0_9 a0_10) else (reelkeeperref04_May.j0 k true a0_0 a0_1 a0_2 a0_3 a0_4 a0_5 a0_6 a0_7 a0_8 a0_9 a0_10)) else (reelkeeperref04_May.j0 k true a0_0 a0_1 a0_2 a0_3 a0_4 a0_5 a0_6 a0_7 a0_8 a0_9 a0_10)) else (reelkeeperref04_May.j0 k true a0_0 a0_1 a0_2 a0_3 a0_4 a0_5 a0_6 a0_7 a0_8 a0_9 a0_10)) = some r := by rw [if_pos rfl] at H; exact H
              clear H
              have H := H1
              clear H1
              by_cases c27 : t107 = true
              · subst c27
                have H1 : (if t108 = true then (if t109 = true then (reelkeeperref04_May.j0 k (a0_0.toList == ([] : List UInt8)) a0_0 a0_1 a0_2 a0_3 a0_4 a0_5 a0_6 a0_7 a0_8 a0_9 a0_10) else (reelkeeperref04_May.j0 k true a0_0 a0_1 a0_2 a0_3 a0_4 a0_5 a0_6 a0_7 a0_8 a0_9 a0_10)) else (reelkeeperref04_May.j0 k true a0_0 a0_1 a0_2 a0_3 a0_4 a0_5 a0_6 a0_7 a0_8 a0_9 a0_10)) = some r := by rw [if_pos rfl] at H; exact H
                clear H
                have H := H1
                clear H1
                by_cases c28 : t108 = true
                · subst c28
                  have H1 : (if t109 = true then (reelkeeperref04_May.j0 k (a0_0.toList == ([] : List UInt8)) a0_0 a0_1 a0_2 a0_3 a0_4 a0_5 a0_6 a0_7 a0_8 a0_9 a0_10) else (reelkeeperref04_May.j0 k true a0_0 a0_1 a0_2 a0_3 a0_4 a0_5 a0_6 a0_7 a0_8 a0_9 a0_10)) = some r := by rw [if_pos rfl] at H; exact H
                  clear H
                  have H := H1
                  clear H1
                  by_cases c29 : t109 = true
                  · subst c29
                    have H1 : (reelkeeperref04_May.j0 k (a0_0.toList == ([] : List UInt8)) a0_0 a0_1 a0_2 a0_3 a0_4 a0_5 a0_6 a0_7 a0_8 a0_9 a0_10) = some r := by rw [if_pos rfl] at H; exact H
                    clear H
                    have H := H1
                    clear H1
                    have H' := Aside0.mk H
                    clear H
                    have hcz30_0 : w21.cell? ⟨gb101, 0, none⟩ = some (.string a0_0) := (blk_cell BK101.out 0).trans rfl
                    have hcz30_1 : w21.cell? ⟨gb101, 1, none⟩ = some (.string a0_1) := (blk_cell BK101.out 1).trans rfl
                    have hcz30_2 : w21.cell? ⟨gb101, 2, none⟩ = some (.string a0_2) := (blk_cell BK101.out 2).trans rfl
                    have hcz30_3 : w21.cell? ⟨gb101, 3, none⟩ = some (.int .i64 a0_3) := (blk_cell BK101.out 3).trans rfl
                    have hcz30_4 : w21.cell? ⟨gb101, 4, none⟩ = some (.int .i64 a0_4) := (blk_cell BK101.out 4).trans rfl
                    have hcz30_5 : w21.cell? ⟨gb101, 5, none⟩ = some (.int .i64 a0_5) := (blk_cell BK101.out 5).trans rfl
                    have hcz30_6 : w21.cell? ⟨gb101, 6, none⟩ = some (.int .i64 a0_6) := (blk_cell BK101.out 6).trans rfl
                    have hcz30_7 : w21.cell? ⟨gb101, 7, none⟩ = some (.int .i64 a0_7) := (blk_cell BK101.out 7).trans rfl
                    have hcz30_8 : w21.cell? ⟨gb101, 8, none⟩ = some (.int .u8 a0_8) := (blk_cell BK101.out 8).trans rfl
                    have hcz30_9 : w21.cell? ⟨gb101, 9, none⟩ = some (.int .i64 a0_9) := (blk_cell BK101.out 9).trans rfl
                    have hcz30_10 : w21.cell? ⟨gb101, 10, none⟩ = some (.int .i64 a0_10) := (blk_cell BK101.out 10).trans rfl
                    have hfz30_0 := blk_frozen BK101.out 0
                    have hfz30_1 := blk_frozen BK101.out 1
                    have hfz30_2 := blk_frozen BK101.out 2
                    have hfz30_3 := blk_frozen BK101.out 3
                    have hfz30_4 := blk_frozen BK101.out 4
                    have hfz30_5 := blk_frozen BK101.out 5
                    have hfz30_6 := blk_frozen BK101.out 6
                    have hfz30_7 := blk_frozen BK101.out 7
                    have hfz30_8 := blk_frozen BK101.out 8
                    have hfz30_9 := blk_frozen BK101.out 9
                    have hfz30_10 := blk_frozen BK101.out 10
                    go_wp2
                    go_meet
                    case rel => exact ⟨_, ((a0_0.toList == ([] : List UInt8))), (by first | rfl | (simp; done) | (simp [*]; done)), H', ⟨by first | omega | exact Nat.le_refl _⟩, ⟨by (with_reducible repeat (first | refine blk_drewN ?_ _ | refine blk_drew ?_ | refine blk_alloc ?_ _)); exact BK101.out⟩, ⟨by repeat (first | (with_reducible first | exact HB.out | apply below_alloc | apply pw_below_drewN | apply below_drew1 | refine below_set ?_ GE101.out) | exact HB.out)⟩⟩
                  · replace c29 := Bool.eq_false_iff.mpr c29
                    subst c29
                    have H1 : (reelkeeperref04_May.j0 k true a0_0 a0_1 a0_2 a0_3 a0_4 a0_5 a0_6 a0_7 a0_8 a0_9 a0_10) = some r := by rw [if_neg (show ¬ (false = true) by decide)] at H; exact H
                    clear H
                    have H := H1
                    clear H1
                    have H' := Aside0.mk H
                    clear H
                    go_wp2
                    go_meet
                    case rel => exact ⟨_, (true), (by first | rfl | (simp; done) | (simp [*]; done)), H', ⟨by first | omega | exact Nat.le_refl _⟩, ⟨by (with_reducible repeat (first | refine blk_drewN ?_ _ | refine blk_drew ?_ | refine blk_alloc ?_ _)); exact BK101.out⟩, ⟨by repeat (first | (with_reducible first | exact HB.out | apply below_alloc | apply pw_below_drewN | apply below_drew1 | refine below_set ?_ GE101.out) | exact HB.out)⟩⟩
                · replace c28 := Bool.eq_false_iff.mpr c28
                  subst c28
                  have H1 : (reelkeeperref04_May.j0 k true a0_0 a0_1 a0_2 a0_3 a0_4 a0_5 a0_6 a0_7 a0_8 a0_9 a0_10) = some r := by rw [if_neg (show ¬ (false = true) by decide)] at H; exact H
                  clear H
                  have H := H1
                  clear H1
                  have H' := Aside0.mk H
                  clear H
                  go_wp2
                  go_meet
                  case rel => exact ⟨_, (true), (by first | rfl | (simp; done) | (simp [*]; done)), H', ⟨by first | omega | exact Nat.le_refl _⟩, ⟨by (with_reducible repeat (first | refine blk_drewN ?_ _ | refine blk_drew ?_ | refine blk_alloc ?_ _)); exact BK101.out⟩, ⟨by repeat (first | (with_reducible first | exact HB.out | apply below_alloc | apply pw_below_drewN | apply below_drew1 | refine below_set ?_ GE101.out) | exact HB.out)⟩⟩
              · replace c27 := Bool.eq_false_iff.mpr c27
                subst c27
                have H1 : (reelkeeperref04_May.j0 k true a0_0 a0_1 a0_2 a0_3 a0_4 a0_5 a0_6 a0_7 a0_8 a0_9 a0_10) = some r := by rw [if_neg (show ¬ (false = true) by decide)] at H; exact H
                clear H
                have H := H1
                clear H1
                have H' := Aside0.mk H
                clear H
                go_wp2
                go_meet
                case rel => exact ⟨_, (true), (by first | rfl | (simp; done) | (simp [*]; done)), H', ⟨by first | omega | exact Nat.le_refl _⟩, ⟨by (with_reducible repeat (first | refine blk_drewN ?_ _ | refine blk_drew ?_ | refine blk_alloc ?_ _)); exact BK101.out⟩, ⟨by repeat (first | (with_reducible first | exact HB.out | apply below_alloc | apply pw_below_drewN | apply below_drew1 | refine below_set ?_ GE101.out) | exact HB.out)⟩⟩
            · replace c26 := Bool.eq_false_iff.mpr c26
              subst c26
              have H1 : (reelkeeperref04_May.j0 k true a0_0 a0_1 a0_2 a0_3 a0_4 a0_5 a0_6 a0_7 a0_8 a0_9 a0_10) = some r := by rw [if_neg (show ¬ (false = true) by decide)] at H; exact H
              clear H
              have H := H1
              clear H1
              have H' := Aside0.mk H
              clear H
              go_wp2
              go_meet
              case rel => exact ⟨_, (true), (by first | rfl | (simp; done) | (simp [*]; done)), H', ⟨by first | omega | exact Nat.le_refl _⟩, ⟨by (with_reducible repeat (first | refine blk_drewN ?_ _ | refine blk_drew ?_ | refine blk_alloc ?_ _)); exact BK101.out⟩, ⟨by repeat (first | (with_reducible first | exact HB.out | apply below_alloc | apply pw_below_drewN | apply below_drew1 | refine below_set ?_ GE101.out) | exact HB.out)⟩⟩
          · replace c25 := Bool.eq_false_iff.mpr c25
            subst c25
            have H1 : (reelkeeperref04_May.j0 k true a0_0 a0_1 a0_2 a0_3 a0_4 a0_5 a0_6 a0_7 a0_8 a0_9 a0_10) = some r := by rw [if_neg (show ¬ (false = true) by decide)] at H; exact H
            clear H
            have H := H1
            clear H1
            have H' := Aside0.mk H
            clear H
            go_wp2
            go_meet
            case rel => exact ⟨_, (true), (by first | rfl | (simp; done) | (simp [*]; done)), H', ⟨by first | omega | exact Nat.le_refl _⟩, ⟨by (with_reducible repeat (first | refine blk_drewN ?_ _ | refine blk_drew ?_ | refine blk_alloc ?_ _)); exact BK101.out⟩, ⟨by repeat (first | (with_reducible first | exact HB.out | apply below_alloc | apply pw_below_drewN | apply below_drew1 | refine below_set ?_ GE101.out) | exact HB.out)⟩⟩
        · replace c24 := Bool.eq_false_iff.mpr c24
          subst c24
          have H1 : (reelkeeperref04_May.j0 k true a0_0 a0_1 a0_2 a0_3 a0_4 a0_5 a0_6 a0_7 a0_8 a0_9 a0_10) = some r := by rw [if_neg (show ¬ (false = true) by decide)] at H; exact H
          clear H
          have H := H1
          clear H1
          have H' := Aside0.mk H
          clear H
          go_wp2
          go_meet
          case rel => exact ⟨_, (true), (by first | rfl | (simp; done) | (simp [*]; done)), H', ⟨by first | omega | exact Nat.le_refl _⟩, ⟨by (with_reducible repeat (first | refine blk_drewN ?_ _ | refine blk_drew ?_ | refine blk_alloc ?_ _)); exact BK101.out⟩, ⟨by repeat (first | (with_reducible first | exact HB.out | apply below_alloc | apply pw_below_drewN | apply below_drew1 | refine below_set ?_ GE101.out) | exact HB.out)⟩⟩
      · replace c23 := Bool.eq_false_iff.mpr c23
        subst c23
        have H1 : (reelkeeperref04_May.j0 k true a0_0 a0_1 a0_2 a0_3 a0_4 a0_5 a0_6 a0_7 a0_8 a0_9 a0_10) = some r := by rw [if_neg (show ¬ (false = true) by decide)] at H; exact H
        clear H
        have H := H1
        clear H1
        have H' := Aside0.mk H
        clear H
        go_wp2
        go_meet
        case rel => exact ⟨_, (true), (by first | rfl | (simp; done) | (simp [*]; done)), H', ⟨by first | omega | exact Nat.le_refl _⟩, ⟨by (with_reducible repeat (first | refine blk_drewN ?_ _ | refine blk_drew ?_ | refine blk_alloc ?_ _)); exact BK101.out⟩, ⟨by repeat (first | (with_reducible first | exact HB.out | apply below_alloc | apply pw_below_drewN | apply below_drew1 | refine below_set ?_ GE101.out) | exact HB.out)⟩⟩
    · replace c22 := Bool.eq_false_iff.mpr c22
      subst c22
      have H1 : (reelkeeperref04_May.j0 k true a0_0 a0_1 a0_2 a0_3 a0_4 a0_5 a0_6 a0_7 a0_8 a0_9 a0_10) = some r := by rw [if_neg (show ¬ (false = true) by decide)] at H; exact H
      clear H
      have H := H1
      clear H1
      have H' := Aside0.mk H
      clear H
      go_wp2
      go_meet
      case rel => exact ⟨_, (true), (by first | rfl | (simp; done) | (simp [*]; done)), H', ⟨by first | omega | exact Nat.le_refl _⟩, ⟨by (with_reducible repeat (first | refine blk_drewN ?_ _ | refine blk_drew ?_ | refine blk_alloc ?_ _)); exact BK101.out⟩, ⟨by repeat (first | (with_reducible first | exact HB.out | apply below_alloc | apply pw_below_drewN | apply below_drew1 | refine below_set ?_ GE101.out) | exact HB.out)⟩⟩
  case rest =>
    clear HC10
    try clear c1
    try clear c2
    try clear p2
    try clear c9
    try clear c10
    try clear c22
    try clear c23
    try clear c24
    try clear c25
    try clear c26
    try clear c27
    try clear c28
    try clear c29
    try clear hcz12_0
    try clear hcz12_1
    try clear hcz12_10
    try clear hcz12_2
    try clear hcz12_3
    try clear hcz12_4
    try clear hcz12_5
    try clear hcz12_6
    try clear hcz12_7
    try clear hcz12_8
    try clear hcz12_9
    try clear hcz14_0
    try clear hcz14_1
    try clear hcz14_10
    try clear hcz14_2
    try clear hcz14_3
    try clear hcz14_4
    try clear hcz14_5
    try clear hcz14_6
    try clear hcz14_7
    try clear hcz14_8
    try clear hcz14_9
    try clear hcz16_0
    try clear hcz16_1
    try clear hcz16_10
    try clear hcz16_2
    try clear hcz16_3
    try clear hcz16_4
    try clear hcz16_5
    try clear hcz16_6
    try clear hcz16_7
    try clear hcz16_8
    try clear hcz16_9
    try clear hcz18_0
    try clear hcz18_1
    try clear hcz18_10
    try clear hcz18_2
    try clear hcz18_3
    try clear hcz18_4
    try clear hcz18_5
    try clear hcz18_6
    try clear hcz18_7
    try clear hcz18_8
    try clear hcz18_9
    try clear hcz20_0
    try clear hcz20_1
    try clear hcz20_10
    try clear hcz20_2
    try clear hcz20_3
    try clear hcz20_4
    try clear hcz20_5
    try clear hcz20_6
    try clear hcz20_7
    try clear hcz20_8
    try clear hcz20_9
    try clear hcz30_0
    try clear hcz30_1
    try clear hcz30_10
    try clear hcz30_2
    try clear hcz30_3
    try clear hcz30_4
    try clear hcz30_5
    try clear hcz30_6
    try clear hcz30_7
    try clear hcz30_8
    try clear hcz30_9
    try clear hfz12_0
    try clear hfz12_1
    try clear hfz12_10
    try clear hfz12_2
    try clear hfz12_3
    try clear hfz12_4
    try clear hfz12_5
    try clear hfz12_6
    try clear hfz12_7
    try clear hfz12_8
    try clear hfz12_9
    try clear hfz14_0
    try clear hfz14_1
    try clear hfz14_10
    try clear hfz14_2
    try clear hfz14_3
    try clear hfz14_4
    try clear hfz14_5
    try clear hfz14_6
    try clear hfz14_7
    try clear hfz14_8
    try clear hfz14_9
    try clear hfz16_0
    try clear hfz16_1
    try clear hfz16_10
    try clear hfz16_2
    try clear hfz16_3
    try clear hfz16_4
    try clear hfz16_5
    try clear hfz16_6
    try clear hfz16_7
    try clear hfz16_8
    try clear hfz16_9
    try clear hfz18_0
    try clear hfz18_1
    try clear hfz18_10
    try clear hfz18_2
    try clear hfz18_3
    try clear hfz18_4
    try clear hfz18_5
    try clear hfz18_6
    try clear hfz18_7
    try clear hfz18_8
    try clear hfz18_9
    try clear hfz20_0
    try clear hfz20_1
    try clear hfz20_10
    try clear hfz20_2
    try clear hfz20_3
    try clear hfz20_4
    try clear hfz20_5
    try clear hfz20_6
    try clear hfz20_7
    try clear hfz20_8
    try clear hfz20_9
    try clear hfz30_0
    try clear hfz30_1
    try clear hfz30_10
    try clear hfz30_2
    try clear hfz30_3
    try clear hfz30_4
    try clear hfz30_5
    try clear hfz30_6
    try clear hfz30_7
    try clear hfz30_8
    try clear hfz30_9
    obtain ⟨kq, x71_9, rfl, HA, HJ9, BK101, HB⟩ := hcut
    cases kq with
    | zero => exact absurd HA.out (by simp [reelkeeperref04_May.j0])
    | succ kj9 =>
      have H := HA.out
      clear HA
      simp only [reelkeeperref04_May.j0] at H
      by_cases c31 : x71_9 = true
      · subst c31
        have H1 : (some false) = some r := by rw [if_pos rfl] at H; exact H
        clear H
        have H := H1
        clear H1
        obtain rfl := Option.some.inj H
        go_wp2
        go_ret
        exact ⟨by first | rfl | (simp [errW_none, errW_some] <;> rfl) | (simp [*, errW_none, errW_some] <;> rfl), by repeat (first | (with_reducible first | exact HB.out | apply below_alloc | apply pw_below_drewN | apply below_drew1 | refine below_set ?_ GE101.out) | exact HB.out)⟩
      · replace c31 := Bool.eq_false_iff.mpr c31
        subst c31
        have H1 : (if a0_8 = 48 then (reelkeeperref04_May.j1 kj9 a0_8 (a0_8 == 48) a0_0 a0_1 a0_2 a0_3 a0_4 a0_5 a0_6 a0_7 a0_8 a0_9 a0_10) else (if a0_8 = 49 then (reelkeeperref04_May.j1 kj9 a0_8 (a0_8 == 49) a0_0 a0_1 a0_2 a0_3 a0_4 a0_5 a0_6 a0_7 a0_8 a0_9 a0_10) else (if a0_8 = 50 then (reelkeeperref04_May.j1 kj9 a0_8 (a0_8 == 50) a0_0 a0_1 a0_2 a0_3 a0_4 a0_5 a0_6 a0_7 a0_8 a0_9 a0_10) else (if a0_8 = 53 then (reelkeeperref04_May.j1 kj9 a0_8 (a0_8 == 53) a0_0 a0_1 a0_2 a0_3 a0_4 a0_5 a0_6 a0_7 a0_8 a0_9 a0_10) else (if a0_8 = 75 then (reelkeeperref04_May.j1 kj9 a0_8 (a0_8 == 75) a0_0 a0_1 a0_2 a0_3 a0_4 a0_5 a0_6 a0_7 a0_8 a0_9 a0_10) else (if a0_8 = 76 then (reelkeeperref04_May.j1 kj9 a0_8 (a0_8 == 76) a0_0 a0_1 a0_2 a0_3 a0_4 a0_5 a0_6 a0_7 a0_8 a0_9 a0_10) else (reelkeeperref04_May.j1 kj9 a0_8 (a0_8 == 86) a0_0 a0_1 a0_2 a0_3 a0_4 a0_5 a0_6 a0_7 a0_8 a0_9 a0_10))))))) = some r := by rw [if_neg (show ¬ (false = true) by decide)] at H; exact H
        clear H
        have H := H1
        clear H1
        have HC32 := Aside0.mk H
        clear H
        have hcz33_0 : wc.cell? ⟨gb101, 0, none⟩ = some (.string a0_0) := (blk_cell BK101.out 0).trans rfl
        have hcz33_1 : wc.cell? ⟨gb101, 1, none⟩ = some (.string a0_1) := (blk_cell BK101.out 1).trans rfl
        have hcz33_2 : wc.cell? ⟨gb101, 2, none⟩ = some (.string a0_2) := (blk_cell BK101.out 2).trans rfl
        have hcz33_3 : wc.cell? ⟨gb101, 3, none⟩ = some (.int .i64 a0_3) := (blk_cell BK101.out 3).trans rfl
        have hcz33_4 : wc.cell? ⟨gb101, 4, none⟩ = some (.int .i64 a0_4) := (blk_cell BK101.out 4).trans rfl
        have hcz33_5 : wc.cell? ⟨gb101, 5, none⟩ = some (.int .i64 a0_5) := (blk_cell BK101.out 5).trans rfl
        have hcz33_6 : wc.cell? ⟨gb101, 6, none⟩ = some (.int .i64 a0_6) := (blk_cell BK101.out 6).trans rfl
        have hcz33_7 : wc.cell? ⟨gb101, 7, none⟩ = some (.int .i64 a0_7) := (blk_cell BK101.out 7).trans rfl
        have hcz33_8 : wc.cell? ⟨gb101, 8, none⟩ = some (.int .u8 a0_8) := (blk_cell BK101.out 8).trans rfl
        have hcz33_9 : wc.cell? ⟨gb101, 9, none⟩ = some (.int .i64 a0_9) := (blk_cell BK101.out 9).trans rfl
        have hcz33_10 : wc.cell? ⟨gb101, 10, none⟩ = some (.int .i64 a0_10) := (blk_cell BK101.out 10).trans rfl
        have hfz33_0 := blk_frozen BK101.out 0
        have hfz33_1 := blk_frozen BK101.out 1
        have hfz33_2 := blk_frozen BK101.out 2
        have hfz33_3 := blk_frozen BK101.out 3
        have hfz33_4 := blk_frozen BK101.out 4
        have hfz33_5 := blk_frozen BK101.out 5
        have hfz33_6 := blk_frozen BK101.out 6
        have hfz33_7 := blk_frozen BK101.out 7
        have hfz33_8 := blk_frozen BK101.out 8
        have hfz33_9 := blk_frozen BK101.out 9
        have hfz33_10 := blk_frozen BK101.out 10
        go_upto_if 74 with (fail)
        go_cut [74] (fun v74 wc => ∃ (kq : Nat) (x74_31 : Bool), v74 = .bool x74_31 ∧ Aside0 (reelkeeperref04_May.j1 kq a0_8 x74_31 a0_0 a0_1 a0_2 a0_3 a0_4 a0_5 a0_6 a0_7 a0_8 a0_9 a0_10 = some r) ∧ Aside0 (kq ≤ kj9) ∧ Aside0 (wc.heap[gb101]? = some (.cells #[.string a0_0, .string a0_1, .string a0_2, .int .i64 a0_3, .int .i64 a0_4, .int .i64 a0_5, .int .i64 a0_6, .int .i64 a0_7, .int .u8 a0_8, .int .i64 a0_9, .int .i64 a0_10] 71 (0, 0))) ∧ Aside0 (Below w.heap.size w wc))
        case first =>
          have H := HC32.out
          clear HC32
          by_cases c34 : a0_8 = 48
          · rw [if_pos c34] at H
            have c34b0 : (a0_8 == 48) = true := beq_iff_eq.mpr c34
            have c34b1 : (a0_8 != 48) = false := bne_eq_false_iff_eq.mpr c34
            clear c34
            (first | rw [c34b0] | (simp only [i64_w, i32_w]; rw [c34b0]) | skip)
            have H' := Aside0.mk H
            clear H
            go_wp2
            go_meet
            case rel => exact ⟨_, ((a0_8 == 48)), (by first | rfl | (simp; done) | (simp [*]; done)), H', ⟨by have := HJ9.out; first | omega | exact Nat.le_refl _⟩, ⟨by (with_reducible repeat (first | refine blk_drewN ?_ _ | refine blk_drew ?_ | refine blk_alloc ?_ _)); exact BK101.out⟩, ⟨by repeat (first | (with_reducible first | exact HB.out | apply below_alloc | apply pw_below_drewN | apply below_drew1 | refine below_set ?_ GE101.out) | exact HB.out)⟩⟩
          · rw [if_neg c34] at H
            have c34b0 : (a0_8 == 48) = false := beq_eq_false_iff_ne.mpr c34
            have c34b1 : (a0_8 != 48) = true := bne_iff_ne.mpr c34
            (first | rw [c34b0] | (simp only [i64_w, i32_w]; rw [c34b0]) | skip)
            by_cases c35 : a0_8 = 49
            · rw [if_pos c35] at H
              have c35b0 : (a0_8 == 49) = true := beq_iff_eq.mpr c35
              have c35b1 : (a0_8 != 49) = false := bne_eq_false_iff_eq.mpr c35
              clear c35
              have H' := Aside0.mk H
              clear H
              go_wp2
              go_meet
              case rel => exact ⟨_, ((a0_8 == 49)), (by first | rfl | (simp; done) | (simp [*]; done)), H', ⟨by have := HJ9.out; first | omega | exact Nat.le_refl _⟩, ⟨by (with_reducible repeat (first | refine blk_drewN ?_ _ | refine blk_drew ?_ | refine blk_alloc ?_ _)); exact BK101.out⟩, ⟨by repeat (first | (with_reducible first | exact HB.out | apply below_alloc | apply pw_below_drewN | apply below_drew1 | refine below_set ?_ GE101.out) | exact HB.out)⟩⟩
            · rw [if_neg c35] at H
              have c35b0 : (a0_8 == 49) = false := beq_eq_false_iff_ne.mpr c35
              have c35b1 : (a0_8 != 49) = true := bne_iff_ne.mpr c35
              by_cases c36 : a0_8 = 50
              · rw [if_pos c36] at H
                have c36b0 : (a0_8 == 50) = true := beq_iff_eq.mpr c36
                have c36b1 : (a0_8 != 50) = false := bne_eq_false_iff_eq.mpr c36
                clear c36
                have H' := Aside0.mk H
                clear H
                go_wp2
                go_meet
                case rel => exact ⟨_, ((a0_8 == 50)), (by first | rfl | (simp; done) | (simp [*]; done)), H', ⟨by have := HJ9.out; first | omega | exact Nat.le_refl _⟩, ⟨by (with_reducible repeat (first | refine blk_drewN ?_ _ | refine blk_drew ?_ | refine blk_alloc ?_ _)); exact BK101.out⟩, ⟨by repeat (first | (with_reducible first | exact HB.out | apply below_alloc | apply pw_below_drewN | apply below_drew1 | refine below_set ?_ GE101.out) | exact HB.out)⟩⟩
              · rw [if_neg c36] at H
                have c36b0 : (a0_8 == 50) = false := beq_eq_false_iff_ne.mpr c36
                have c36b1 : (a0_8 != 50) = true := bne_iff_ne.mpr c36
                by_cases c37 : a0_8 = 53
                · rw [if_pos c37] at H
                  have c37b0 : (a0_8 == 53) = true := beq_iff_eq.mpr c37
                  have c37b1 : (a0_8 != 53) = false := bne_eq_false_iff_eq.mpr c37
                  clear c37
                  have H' := Aside0.mk H
                  clear H
                  go_wp2
                  go_meet
                  case rel => exact ⟨_, ((a0_8 == 53)), (by first | rfl | (simp; done) | (simp [*]; done)), H', ⟨by have := HJ9.out; first | omega | exact Nat.le_refl _⟩, ⟨by (with_reducible repeat (first | refine blk_drewN ?_ _ | refine blk_drew ?_ | refine blk_alloc ?_ _)); exact BK101.out⟩, ⟨by repeat (first | (with_reducible first | exact HB.out | apply below_alloc | apply pw_below_drewN | apply below_drew1 | refine below_set ?_ GE101.out) | exact HB.out)⟩⟩
                · rw [if_neg c37] at H
                  have c37b0 : (a0_8 == 53) = false := beq_eq_false_iff_ne.mpr c37
                  have c37b1 : (a0_8 != 53) = true := bne_iff_ne.mpr c37
                  by_cases c38 : a0_8 = 75
                  · rw [if_pos c38] at H
                    have c38b0 : (a0_8 == 75) = true := beq_iff_eq.mpr c38
                    have c38b1 : (a0_8 != 75) = false := bne_eq_false_iff_eq.mpr c38
                    clear c38
                    have H' := Aside0.mk H
                    clear H
                    go_wp2
                    go_meet
                    case rel => exact ⟨_, ((a0_8 == 75)), (by first | rfl | (simp; done) | (simp [*]; done)), H', ⟨by have := HJ9.out; first | omega | exact Nat.le_refl _⟩, ⟨by (with_reducible repeat (first | refine blk_drewN ?_ _ | refine blk_drew ?_ | refine blk_alloc ?_ _)); exact BK101.out⟩, ⟨by repeat (first | (with_reducible first | exact HB.out | apply below_alloc | apply pw_below_drewN | apply below_drew1 | refine below_set ?_ GE101.out) | exact HB.out)⟩⟩
                  · rw [if_neg c38] at H
                    have c38b0 : (a0_8 == 75) = false := beq_eq_false_iff_ne.mpr c38
                    have c38b1 : (a0_8 != 75) = true := bne_iff_ne.mpr c38
                    by_cases c39 : a0_8 = 76
                    · rw [if_pos c39] at H
                      have c39b0 : (a0_8 == 76) = true := beq_iff_eq.mpr c39
                      have c39b1 : (a0_8 != 76) = false := bne_eq_false_iff_eq.mpr c39
                      clear c39
                      have H' := Aside0.mk H
                      clear H
                      go_wp2
                      go_meet
                      case rel => exact ⟨_, ((a0_8 == 76)), (by first | rfl | (simp; done) | (simp [*]; done)), H', ⟨by have := HJ9.out; first | omega | exact Nat.le_refl _⟩, ⟨by (with_reducible repeat (first | refine blk_drewN ?_ _ | refine blk_drew ?_ | refine blk_alloc ?_ _)); exact BK101.out⟩, ⟨by repeat (first | (with_reducible first | exact HB.out | apply below_alloc | apply pw_below_drewN | apply below_drew1 | refine below_set ?_ GE101.out) | exact HB.out)⟩⟩
                    · rw [if_neg c39] at H
                      have c39b0 : (a0_8 == 76) = false := beq_eq_false_iff_ne.mpr c39
                      have c39b1 : (a0_8 != 76) = true := bne_iff_ne.mpr c39
                      have H' := Aside0.mk H
                      clear H
                      go_wp2
                      go_meet
                      case rel => exact ⟨_, ((a0_8 == 86)), (by first | rfl | (simp; done) | (simp [*]; done)), H', ⟨by have := HJ9.out; first | omega | exact Nat.le_refl _⟩, ⟨by (with_reducible repeat (first | refine blk_drewN ?_ _ | refine blk_drew ?_ | refine blk_alloc ?_ _)); exact BK101.out⟩, ⟨by repeat (first | (with_reducible first | exact HB.out | apply below_alloc | apply pw_below_drewN | apply below_drew1 | refine below_set ?_ GE101.out) | exact HB.out)⟩⟩
        case rest =>
          clear HC32
          try clear c1
          try clear c2
          try clear p2
          try clear c3
          try clear c9
          try clear c10
          try clear c22
          try clear c23
          try clear c24
          try clear c25
          try clear c26
          try clear c27
          try clear c28
          try clear c29
          try clear c31
          try clear c34
          try clear c34b0
          try clear c34b1
          try clear c35
          try clear c35b0
          try clear c35b1
          try clear c36
          try clear c36b0
          try clear c36b1
          try clear c37
          try clear c37b0
          try clear c37b1
          try clear c38
          try clear c38b0
          try clear c38b1
          try clear c39
          try clear c39b0
          try clear c39b1
          try clear hcz12_0
          try clear hcz12_1
          try clear hcz12_10
          try clear hcz12_2
          try clear hcz12_3
          try clear hcz12_4
          try clear hcz12_5
          try clear hcz12_6
          try clear hcz12_7
          try clear hcz12_8
          try clear hcz12_9
          try clear hcz14_0
          try clear hcz14_1
          try clear hcz14_10
          try clear hcz14_2
          try clear hcz14_3
          try clear hcz14_4
          try clear hcz14_5
          try clear hcz14_6
          try clear hcz14_7
          try clear hcz14_8
          try clear hcz14_9
          try clear hcz16_0
          try clear hcz16_1
          try clear hcz16_10
          try clear hcz16_2
          try clear hcz16_3
          try clear hcz16_4
          try clear hcz16_5
          try clear hcz16_6
          try clear hcz16_7
          try clear hcz16_8
          try clear hcz16_9
          try clear hcz18_0
          try clear hcz18_1
          try clear hcz18_10
          try clear hcz18_2
          try clear hcz18_3
          try clear hcz18_4
          try clear hcz18_5
          try clear hcz18_6
          try clear hcz18_7
          try clear hcz18_8
          try clear hcz18_9
          try clear hcz20_0
          try clear hcz20_1
          try clear hcz20_10
          try clear hcz20_2
          try clear hcz20_3
          try clear hcz20_4
          try clear hcz20_5
          try clear hcz20_6
          try clear hcz20_7
          try clear hcz20_8
          try clear hcz20_9
          try clear hcz30_0
          try clear hcz30_1
          try clear hcz30_10
          try clear hcz30_2
          try clear hcz30_3
          try clear hcz30_4
          try clear hcz30_5
          try clear hcz30_6
          try clear hcz30_7
          try clear hcz30_8
          try clear hcz30_9
          try clear hcz33_0
          try clear hcz33_1
          try clear hcz33_10
          try clear hcz33_2
          try clear hcz33_3
          try clear hcz33_4
          try clear hcz33_5
          try clear hcz33_6
          try clear hcz33_7
          try clear hcz33_8
          try clear hcz33_9
          try clear hfz12_0
          try clear hfz12_1
          try clear hfz12_10
          try clear hfz12_2
          try clear hfz12_3
          try clear hfz12_4
          try clear hfz12_5
          try clear hfz12_6
          try clear hfz12_7
          try clear hfz12_8
          try clear hfz12_9
          try clear hfz14_0
          try clear hfz14_1
          try clear hfz14_10
          try clear hfz14_2
          try clear hfz14_3
          try clear hfz14_4
          try clear hfz14_5
          try clear hfz14_6
          try clear hfz14_7
          try clear hfz14_8
          try clear hfz14_9
          try clear hfz16_0
          try clear hfz16_1
          try clear hfz16_10
          try clear hfz16_2
          try clear hfz16_3
          try clear hfz16_4
          try clear hfz16_5
          try clear hfz16_6
          try clear hfz16_7
          try clear hfz16_8
          try clear hfz16_9
          try clear hfz18_0
          try clear hfz18_1
          try clear hfz18_10
          try clear hfz18_2
          try clear hfz18_3
          try clear hfz18_4
          try clear hfz18_5
          try clear hfz18_6
          try clear hfz18_7
          try clear hfz18_8
          try clear hfz18_9
          try clear hfz20_0
          try clear hfz20_1
          try clear hfz20_10
          try clear hfz20_2
          try clear hfz20_3
          try clear hfz20_4
          try clear hfz20_5
          try clear hfz20_6
          try clear hfz20_7
          try clear hfz20_8
          try clear hfz20_9
          try clear hfz30_0
          try clear hfz30_1
          try clear hfz30_10
          try clear hfz30_2
          try clear hfz30_3
          try clear hfz30_4
          try clear hfz30_5
          try clear hfz30_6
          try clear hfz30_7
          try clear hfz30_8
          try clear hfz30_9
          try clear hfz33_0
          try clear hfz33_1
          try clear hfz33_10
          try clear hfz33_2
          try clear hfz33_3
          try clear hfz33_4
          try clear hfz33_5
          try clear hfz33_6
          try clear hfz33_7
          try clear hfz33_8
          try clear hfz33_9
          try clear p2
          obtain ⟨kq, x74_31, rfl, HA, HJ31, BK101, HB⟩ := hcut
          cases kq with
          | zero => exact absurd HA.out (by simp [reelkeeperref04_May.j1])
          | succ kj31 =>
            have H := HA.out
            clear HA
            simp only [reelkeeperref04_May.j1] at H
            by_cases c40 : x74_31 = true
            · subst c40
              have H1 : (if a0_9 = 0 then (some (a0_10 == 0)) else (some false)) = some r := by rw [if_pos rfl] at H; exact H
              clear H
              have H := H1
              clear H1
              by_cases c41 : a0_9 = 0
              · rw [if_pos c41] at H
                have c41b0 : (a0_9 == 0) = true := beq_iff_eq.mpr c41
                have c41b1 : (a0_9 != 0) = false := bne_eq_false_iff_eq.mpr c41
                clear c41
                obtain rfl := Option.some.inj H
                have hcz42_0 : wc.cell? ⟨gb101, 0, none⟩ = some (.string a0_0) := (blk_cell BK101.out 0).trans rfl
                have hcz42_1 : wc.cell? ⟨gb101, 1, none⟩ = some (.string a0_1) := (blk_cell BK101.out 1).trans rfl
                have hcz42_2 : wc.cell? ⟨gb101, 2, none⟩ = some (.string a0_2) := (blk_cell BK101.out 2).trans rfl
                have hcz42_3 : wc.cell? ⟨gb101, 3, none⟩ = some (.int .i64 a0_3) := (blk_cell BK101.out 3).trans rfl
                have hcz42_4 : wc.cell? ⟨gb101, 4, none⟩ = some (.int .i64 a0_4) := (blk_cell BK101.out 4).trans rfl
                have hcz42_5 : wc.cell? ⟨gb101, 5, none⟩ = some (.int .i64 a0_5) := (blk_cell BK101.out 5).trans rfl
                have hcz42_6 : wc.cell? ⟨gb101, 6, none⟩ = some (.int .i64 a0_6) := (blk_cell BK101.out 6).trans rfl
                have hcz42_7 : wc.cell? ⟨gb101, 7, none⟩ = some (.int .i64 a0_7) := (blk_cell BK101.out 7).trans rfl
                have hcz42_8 : wc.cell? ⟨gb101, 8, none⟩ = some (.int .u8 a0_8) := (blk_cell BK101.out 8).trans rfl
                have hcz42_9 : wc.cell? ⟨gb101, 9, none⟩ = some (.int .i64 a0_9) := (blk_cell BK101.out 9).trans rfl
                have hcz42_10 : wc.cell? ⟨gb101, 10, none⟩ = some (.int .i64 a0_10) := (blk_cell BK101.out 10).trans rfl
                have hfz42_0 := blk_frozen BK101.out 0
                have hfz42_1 := blk_frozen BK101.out 1
                have hfz42_2 := blk_frozen BK101.out 2
                have hfz42_3 := blk_frozen BK101.out 3
                have hfz42_4 := blk_frozen BK101.out 4
                have hfz42_5 := blk_frozen BK101.out 5
                have hfz42_6 := blk_frozen BK101.out 6
                have hfz42_7 := blk_frozen BK101.out 7
                have hfz42_8 := blk_frozen BK101.out 8
                have hfz42_9 := blk_frozen BK101.out 9
                have hfz42_10 := blk_frozen BK101.out 10
                go_wp2
                go_ret
                exact ⟨by first | rfl | (simp [errW_none, errW_some] <;> rfl) | (simp [*, errW_none, errW_some] <;> rfl), by repeat (first | (with_reducible first | exact HB.out | apply below_alloc | apply pw_below_drewN | apply below_drew1 | refine below_set ?_ GE101.out) | exact HB.out)⟩
              · rw [if_neg c41] at H
                have c41b0 : (a0_9 == 0) = false := beq_eq_false_iff_ne.mpr c41
                have c41b1 : (a0_9 != 0) = true := bne_iff_ne.mpr c41
                obtain rfl := Option.some.inj H
                have hcz43_0 : wc.cell? ⟨gb101, 0, none⟩ = some (.string a0_0) := (blk_cell BK101.out 0).trans rfl
                have hcz43_1 : wc.cell? ⟨gb101, 1, none⟩ = some (.string a0_1) := (blk_cell BK101.out 1).trans rfl
                have hcz43_2 : wc.cell? ⟨gb101, 2, none⟩ = some (.string a0_2) := (blk_cell BK101.out 2).trans rfl
                have hcz43_3 : wc.cell? ⟨gb101, 3, none⟩ = some (.int .i64 a0_3) := (blk_cell BK101.out 3).trans rfl
                have hcz43_4 : wc.cell? ⟨gb101, 4, none⟩ = some (.int .i64 a0_4) := (blk_cell BK101.out 4).trans rfl
                have hcz43_5 : wc.cell? ⟨gb101, 5, none⟩ = some (.int .i64 a0_5) := (blk_cell BK101.out 5).trans rfl
                have hcz43_6 : wc.cell? ⟨gb101, 6, none⟩ = some (.int .i64 a0_6) := (blk_cell BK101.out 6).trans rfl
                have hcz43_7 : wc.cell? ⟨gb101, 7, none⟩ = some (.int .i64 a0_7) := (blk_cell BK101.out 7).trans rfl
                have hcz43_8 : wc.cell? ⟨gb101, 8, none⟩ = some (.int .u8 a0_8) := (blk_cell BK101.out 8).trans rfl
                have hcz43_9 : wc.cell? ⟨gb101, 9, none⟩ = some (.int .i64 a0_9) := (blk_cell BK101.out 9).trans rfl
                have hcz43_10 : wc.cell? ⟨gb101, 10, none⟩ = some (.int .i64 a0_10) := (blk_cell BK101.out 10).trans rfl
                have hfz43_0 := blk_frozen BK101.out 0
                have hfz43_1 := blk_frozen BK101.out 1
                have hfz43_2 := blk_frozen BK101.out 2
                have hfz43_3 := blk_frozen BK101.out 3
                have hfz43_4 := blk_frozen BK101.out 4
                have hfz43_5 := blk_frozen BK101.out 5
                have hfz43_6 := blk_frozen BK101.out 6
                have hfz43_7 := blk_frozen BK101.out 7
                have hfz43_8 := blk_frozen BK101.out 8
                have hfz43_9 := blk_frozen BK101.out 9
                have hfz43_10 := blk_frozen BK101.out 10
                go_wp2
                go_ret
                exact ⟨by first | rfl | (simp [errW_none, errW_some] <;> rfl) | (simp [*, errW_none, errW_some] <;> rfl), by repeat (first | (with_reducible first | exact HB.out | apply below_alloc | apply pw_below_drewN | apply below_drew1 | refine below_set ?_ GE101.out) | exact HB.out)⟩
            · replace c40 := Bool.eq_false_iff.mpr c40
              subst c40
              have H1 : (if a0_8 = 77 then ((reelkeeperref04_fits.f a0_9 12).bind fun t110 => ((reelkeeperref04_fits.f a0_10 12).bind fun t111 => (if a0_1.toList = ([] : List UInt8) then (if t110 = true then (some t111) else (some false)) else (some false)))) else (some false)) = some r := by rw [if_neg (show ¬ (false = true) by decide)] at H; exact H
              clear H
              have H := H1
              clear H1
              by_cases c44 : a0_8 = 77
              · rw [if_pos c44] at H
                have c44b0 : (a0_8 == 77) = true := beq_iff_eq.mpr c44
                have c44b1 : (a0_8 != 77) = false := bne_eq_false_iff_eq.mpr c44
                clear c44
                replace H := Option.bind_eq_some_iff.mp H
                obtain ⟨t110, A450, H⟩ := H
                replace H : ((reelkeeperref04_fits.f a0_10 12).bind fun t111 => (if a0_1.toList = ([] : List UInt8) then (if t110 = true then (some t111) else (some false)) else (some false))) = some r := H
                have A45 := Aside0.mk A450
                clear A450
                replace H := Option.bind_eq_some_iff.mp H
                obtain ⟨t111, A460, H⟩ := H
                replace H : (if a0_1.toList = ([] : List UInt8) then (if t110 = true then (some t111) else (some false)) else (some false)) = some r := H
                have A46 := Aside0.mk A460
                clear A460
                by_cases c47 : a0_1.toList = ([] : List UInt8)
                · rw [if_pos c47] at H
                  have c47b0 : (a0_1.toList == ([] : List UInt8)) = true := beq_iff_eq.mpr c47
                  have c47b1 : (a0_1.toList != ([] : List UInt8)) = false := bne_eq_false_iff_eq.mpr c47
                  clear c47
                  by_cases c48 : t110 = true
                  · subst c48
                    have H1 : (some t111) = some r := by rw [if_pos rfl] at H; exact H
                    clear H
                    have H := H1
                    clear H1
                    obtain rfl := Option.some.inj H
                    have hcz49_0 : wc.cell? ⟨gb101, 0, none⟩ = some (.string a0_0) := (blk_cell BK101.out 0).trans rfl
                    have hcz49_1 : wc.cell? ⟨gb101, 1, none⟩ = some (.string a0_1) := (blk_cell BK101.out 1).trans rfl
                    have hcz49_2 : wc.cell? ⟨gb101, 2, none⟩ = some (.string a0_2) := (blk_cell BK101.out 2).trans rfl
                    have hcz49_3 : wc.cell? ⟨gb101, 3, none⟩ = some (.int .i64 a0_3) := (blk_cell BK101.out 3).trans rfl
                    have hcz49_4 : wc.cell? ⟨gb101, 4, none⟩ = some (.int .i64 a0_4) := (blk_cell BK101.out 4).trans rfl
                    have hcz49_5 : wc.cell? ⟨gb101, 5, none⟩ = some (.int .i64 a0_5) := (blk_cell BK101.out 5).trans rfl
                    have hcz49_6 : wc.cell? ⟨gb101, 6, none⟩ = some (.int .i64 a0_6) := (blk_cell BK101.out 6).trans rfl
                    have hcz49_7 : wc.cell? ⟨gb101, 7, none⟩ = some (.int .i64 a0_7) := (blk_cell BK101.out 7).trans rfl
                    have hcz49_8 : wc.cell? ⟨gb101, 8, none⟩ = some (.int .u8 a0_8) := (blk_cell BK101.out 8).trans rfl
                    have hcz49_9 : wc.cell? ⟨gb101, 9, none⟩ = some (.int .i64 a0_9) := (blk_cell BK101.out 9).trans rfl
                    have hcz49_10 : wc.cell? ⟨gb101, 10, none⟩ = some (.int .i64 a0_10) := (blk_cell BK101.out 10).trans rfl
                    have hfz49_0 := blk_frozen BK101.out 0
                    have hfz49_1 := blk_frozen BK101.out 1
                    have hfz49_2 := blk_frozen BK101.out 2
                    have hfz49_3 := blk_frozen BK101.out 3
                    have hfz49_4 := blk_frozen BK101.out 4
                    have hfz49_5 := blk_frozen BK101.out 5
                    have hfz49_6 := blk_frozen BK101.out 6
                    have hfz49_7 := blk_frozen BK101.out 7
                    have hfz49_8 := blk_frozen BK101.out 8
                    have hfz49_9 := blk_frozen BK101.out 9
                    have hfz49_10 := blk_frozen BK101.out 10
                    go_wp2_with (first | ((with_reducible refine gate_callee (f := 108) rfl ?_); refine goesL_ (some 94) rfl rfl Try.func108 (by kernel_rfl) rfl #[.int .i64 a0_9, .int .i64 12] rfl (by (try simp only [List.map_toArray, List.map_cons, List.map_nil]); first | done | rfl | (simp only [List.length_drop, List.length_take]; rfl)) ?_; (with_reducible refine (reelkeeperref04_fits.calls a0_9 12 true _ A45.out).mono ?_); rintro e w50 ⟨rfl, hb⟩; refine ⟨_, rfl, ?_⟩; have n0_ := Aside0.mk (blk_below (g := gb101) (o := .cells #[.string a0_0, .string a0_1, .string a0_2, .int .i64 a0_3, .int .i64 a0_4, .int .i64 a0_5, .int .i64 a0_6, .int .i64 a0_7, .int .u8 a0_8, .int .i64 a0_9, .int .i64 a0_10] 71 (0, 0)) (by (with_reducible repeat (first | refine blk_drewN ?_ _ | refine blk_drew ?_ | refine blk_alloc ?_ _)); exact BK101.out) hb); have n1_ := Aside0.mk (below_step (by repeat (first | (with_reducible first | exact HB.out | apply below_alloc | apply pw_below_drewN | apply below_drew1 | refine below_set ?_ GE101.out) | exact HB.out)) hb); clear BK101; clear HB; have BK101 := n0_; have HB := n1_; clear n0_ n1_; (try clear hb); (try clear hb2); (try clear hk); (try clear hi); have hcz51_0 : w50.cell? ⟨gb101, 0, none⟩ = some (.string a0_0) := (blk_cell BK101.out 0).trans rfl; have hcz51_1 : w50.cell? ⟨gb101, 1, none⟩ = some (.string a0_1) := (blk_cell BK101.out 1).trans rfl; have hcz51_2 : w50.cell? ⟨gb101, 2, none⟩ = some (.string a0_2) := (blk_cell BK101.out 2).trans rfl; have hcz51_3 : w50.cell? ⟨gb101, 3, none⟩ = some (.int .i64 a0_3) := (blk_cell BK101.out 3).trans rfl; have hcz51_4 : w50.cell? ⟨gb101, 4, none⟩ = some (.int .i64 a0_4) := (blk_cell BK101.out 4).trans rfl; have hcz51_5 : w50.cell? ⟨gb101, 5, none⟩ = some (.int .i64 a0_5) := (blk_cell BK101.out 5).trans rfl; have hcz51_6 : w50.cell? ⟨gb101, 6, none⟩ = some (.int .i64 a0_6) := (blk_cell BK101.out 6).trans rfl; have hcz51_7 : w50.cell? ⟨gb101, 7, none⟩ = some (.int .i64 a0_7) := (blk_cell BK101.out 7).trans rfl; have hcz51_8 : w50.cell? ⟨gb101, 8, none⟩ = some (.int .u8 a0_8) := (blk_cell BK101.out 8).trans rfl; have hcz51_9 : w50.cell? ⟨gb101, 9, none⟩ = some (.int .i64 a0_9) := (blk_cell BK101.out 9).trans rfl; have hcz51_10 : w50.cell? ⟨gb101, 10, none⟩ = some (.int .i64 a0_10) := (blk_cell BK101.out 10).trans rfl; have hfz51_0 := blk_frozen BK101.out 0; have hfz51_1 := blk_frozen BK101.out 1; have hfz51_2 := blk_frozen BK101.out 2; have hfz51_3 := blk_frozen BK101.out 3; have hfz51_4 := blk_frozen BK101.out 4; have hfz51_5 := blk_frozen BK101.out 5; have hfz51_6 := blk_frozen BK101.out 6; have hfz51_7 := blk_frozen BK101.out 7; have hfz51_8 := blk_frozen BK101.out 8; have hfz51_9 := blk_frozen BK101.out 9; have hfz51_10 := blk_frozen BK101.out 10) | ((with_reducible refine gate_callee (f := 108) rfl ?_); refine goesL_ (some 97) rfl rfl Try.func108 (by kernel_rfl) rfl #[.int .i64 a0_10, .int .i64 12] rfl (by (try simp only [List.map_toArray, List.map_cons, List.map_nil]); first | done | rfl | (simp only [List.length_drop, List.length_take]; rfl)) ?_; (with_reducible refine (reelkeeperref04_fits.calls a0_10 12 t111 _ A46.out).mono ?_); rintro e w52 ⟨rfl, hb⟩; refine ⟨_, rfl, ?_⟩; have n0_ := Aside0.mk (blk_below (g := gb101) (o := .cells #[.string a0_0, .string a0_1, .string a0_2, .int .i64 a0_3, .int .i64 a0_4, .int .i64 a0_5, .int .i64 a0_6, .int .i64 a0_7, .int .u8 a0_8, .int .i64 a0_9, .int .i64 a0_10] 71 (0, 0)) (by (with_reducible repeat (first | refine blk_drewN ?_ _ | refine blk_drew ?_ | refine blk_alloc ?_ _)); exact BK101.out) hb); have n1_ := Aside0.mk (below_step (by repeat (first | (with_reducible first | exact HB.out | apply below_alloc | apply pw_below_drewN | apply below_drew1 | refine below_set ?_ GE101.out) | exact HB.out)) hb); clear BK101; clear HB; have BK101 := n0_; have HB := n1_; clear n0_ n1_; (try clear hb); (try clear hb2); (try clear hk); (try clear hi); have hcz53_0 : w52.cell? ⟨gb101, 0, none⟩ = some (.string a0_0) := (blk_cell BK101.out 0).trans rfl; have hcz53_1 : w52.cell? ⟨gb101, 1, none⟩ = some (.string a0_1) := (blk_cell BK101.out 1).trans rfl; have hcz53_2 : w52.cell? ⟨gb101, 2, none⟩ = some (.string a0_2) := (blk_cell BK101.out 2).trans rfl; have hcz53_3 : w52.cell? ⟨gb101, 3, none⟩ = some (.int .i64 a0_3) := (blk_cell BK101.out 3).trans rfl; have hcz53_4 : w52.cell? ⟨gb101, 4, none⟩ = some (.int .i64 a0_4) := (blk_cell BK101.out 4).trans rfl; have hcz53_5 : w52.cell? ⟨gb101, 5, none⟩ = some (.int .i64 a0_5) := (blk_cell BK101.out 5).trans rfl; have hcz53_6 : w52.cell? ⟨gb101, 6, none⟩ = some (.int .i64 a0_6) := (blk_cell BK101.out 6).trans rfl; have hcz53_7 : w52.cell? ⟨gb101, 7, none⟩ = some (.int .i64 a0_7) := (blk_cell BK101.out 7).trans rfl; have hcz53_8 : w52.cell? ⟨gb101, 8, none⟩ = some (.int .u8 a0_8) := (blk_cell BK101.out 8).trans rfl; have hcz53_9 : w52.cell? ⟨gb101, 9, none⟩ = some (.int .i64 a0_9) := (blk_cell BK101.out 9).trans rfl; have hcz53_10 : w52.cell? ⟨gb101, 10, none⟩ = some (.int .i64 a0_10) := (blk_cell BK101.out 10).trans rfl; have hfz53_0 := blk_frozen BK101.out 0; have hfz53_1 := blk_frozen BK101.out 1; have hfz53_2 := blk_frozen BK101.out 2; have hfz53_3 := blk_frozen BK101.out 3; have hfz53_4 := blk_frozen BK101.out 4; have hfz53_5 := blk_frozen BK101.out 5; have hfz53_6 := blk_frozen BK101.out 6; have hfz53_7 := blk_frozen BK101.out 7; have hfz53_8 := blk_frozen BK101.out 8; have hfz53_9 := blk_frozen BK101.out 9; have hfz53_10 := blk_frozen BK101.out 10))
                    go_ret
                    exact ⟨by first | rfl | (simp [errW_none, errW_some] <;> rfl) | (simp [*, errW_none, errW_some] <;> rfl), by repeat (first | (with_reducible first | exact HB.out | apply below_alloc | apply pw_below_drewN | apply below_drew1 | refine below_set ?_ GE101.out) | exact HB.out)⟩
                  · replace c48 := Bool.eq_false_iff.mpr c48
                    subst c48
                    have H1 : (some false) = some r := by rw [if_neg (show ¬ (false = true) by decide)] at H; exact H
                    clear H
                    have H := H1
                    clear H1
                    obtain rfl := Option.some.inj H
                    have hcz54_0 : wc.cell? ⟨gb101, 0, none⟩ = some (.string a0_0) := (blk_cell BK101.out 0).trans rfl
                    have hcz54_1 : wc.cell? ⟨gb101, 1, none⟩ = some (.string a0_1) := (blk_cell BK101.out 1).trans rfl
                    have hcz54_2 : wc.cell? ⟨gb101, 2, none⟩ = some (.string a0_2) := (blk_cell BK101.out 2).trans rfl
                    have hcz54_3 : wc.cell? ⟨gb101, 3, none⟩ = some (.int .i64 a0_3) := (blk_cell BK101.out 3).trans rfl
                    have hcz54_4 : wc.cell? ⟨gb101, 4, none⟩ = some (.int .i64 a0_4) := (blk_cell BK101.out 4).trans rfl
                    have hcz54_5 : wc.cell? ⟨gb101, 5, none⟩ = some (.int .i64 a0_5) := (blk_cell BK101.out 5).trans rfl
                    have hcz54_6 : wc.cell? ⟨gb101, 6, none⟩ = some (.int .i64 a0_6) := (blk_cell BK101.out 6).trans rfl
                    have hcz54_7 : wc.cell? ⟨gb101, 7, none⟩ = some (.int .i64 a0_7) := (blk_cell BK101.out 7).trans rfl
                    have hcz54_8 : wc.cell? ⟨gb101, 8, none⟩ = some (.int .u8 a0_8) := (blk_cell BK101.out 8).trans rfl
                    have hcz54_9 : wc.cell? ⟨gb101, 9, none⟩ = some (.int .i64 a0_9) := (blk_cell BK101.out 9).trans rfl
                    have hcz54_10 : wc.cell? ⟨gb101, 10, none⟩ = some (.int .i64 a0_10) := (blk_cell BK101.out 10).trans rfl
                    have hfz54_0 := blk_frozen BK101.out 0
                    have hfz54_1 := blk_frozen BK101.out 1
                    have hfz54_2 := blk_frozen BK101.out 2
                    have hfz54_3 := blk_frozen BK101.out 3
                    have hfz54_4 := blk_frozen BK101.out 4
                    have hfz54_5 := blk_frozen BK101.out 5
                    have hfz54_6 := blk_frozen BK101.out 6
                    have hfz54_7 := blk_frozen BK101.out 7
                    have hfz54_8 := blk_frozen BK101.out 8
                    have hfz54_9 := blk_frozen BK101.out 9
                    have hfz54_10 := blk_frozen BK101.out 10
                    go_wp2_with (first | ((with_reducible refine gate_callee (f := 108) rfl ?_); refine goesL_ (some 94) rfl rfl Try.func108 (by kernel_rfl) rfl #[.int .i64 a0_9, .int .i64 12] rfl (by (try simp only [List.map_toArray, List.map_cons, List.map_nil]); first | done | rfl | (simp only [List.length_drop, List.length_take]; rfl)) ?_; (with_reducible refine (reelkeeperref04_fits.calls a0_9 12 false _ A45.out).mono ?_); rintro e w55 ⟨rfl, hb⟩; refine ⟨_, rfl, ?_⟩; have n0_ := Aside0.mk (blk_below (g := gb101) (o := .cells #[.string a0_0, .string a0_1, .string a0_2, .int .i64 a0_3, .int .i64 a0_4, .int .i64 a0_5, .int .i64 a0_6, .int .i64 a0_7, .int .u8 a0_8, .int .i64 a0_9, .int .i64 a0_10] 71 (0, 0)) (by (with_reducible repeat (first | refine blk_drewN ?_ _ | refine blk_drew ?_ | refine blk_alloc ?_ _)); exact BK101.out) hb); have n1_ := Aside0.mk (below_step (by repeat (first | (with_reducible first | exact HB.out | apply below_alloc | apply pw_below_drewN | apply below_drew1 | refine below_set ?_ GE101.out) | exact HB.out)) hb); clear BK101; clear HB; have BK101 := n0_; have HB := n1_; clear n0_ n1_; (try clear hb); (try clear hb2); (try clear hk); (try clear hi); have hcz56_0 : w55.cell? ⟨gb101, 0, none⟩ = some (.string a0_0) := (blk_cell BK101.out 0).trans rfl; have hcz56_1 : w55.cell? ⟨gb101, 1, none⟩ = some (.string a0_1) := (blk_cell BK101.out 1).trans rfl; have hcz56_2 : w55.cell? ⟨gb101, 2, none⟩ = some (.string a0_2) := (blk_cell BK101.out 2).trans rfl; have hcz56_3 : w55.cell? ⟨gb101, 3, none⟩ = some (.int .i64 a0_3) := (blk_cell BK101.out 3).trans rfl; have hcz56_4 : w55.cell? ⟨gb101, 4, none⟩ = some (.int .i64 a0_4) := (blk_cell BK101.out 4).trans rfl; have hcz56_5 : w55.cell? ⟨gb101, 5, none⟩ = some (.int .i64 a0_5) := (blk_cell BK101.out 5).trans rfl; have hcz56_6 : w55.cell? ⟨gb101, 6, none⟩ = some (.int .i64 a0_6) := (blk_cell BK101.out 6).trans rfl; have hcz56_7 : w55.cell? ⟨gb101, 7, none⟩ = some (.int .i64 a0_7) := (blk_cell BK101.out 7).trans rfl; have hcz56_8 : w55.cell? ⟨gb101, 8, none⟩ = some (.int .u8 a0_8) := (blk_cell BK101.out 8).trans rfl; have hcz56_9 : w55.cell? ⟨gb101, 9, none⟩ = some (.int .i64 a0_9) := (blk_cell BK101.out 9).trans rfl; have hcz56_10 : w55.cell? ⟨gb101, 10, none⟩ = some (.int .i64 a0_10) := (blk_cell BK101.out 10).trans rfl; have hfz56_0 := blk_frozen BK101.out 0; have hfz56_1 := blk_frozen BK101.out 1; have hfz56_2 := blk_frozen BK101.out 2; have hfz56_3 := blk_frozen BK101.out 3; have hfz56_4 := blk_frozen BK101.out 4; have hfz56_5 := blk_frozen BK101.out 5; have hfz56_6 := blk_frozen BK101.out 6; have hfz56_7 := blk_frozen BK101.out 7; have hfz56_8 := blk_frozen BK101.out 8; have hfz56_9 := blk_frozen BK101.out 9; have hfz56_10 := blk_frozen BK101.out 10) | ((with_reducible refine gate_callee (f := 108) rfl ?_); refine goesL_ (some 97) rfl rfl Try.func108 (by kernel_rfl) rfl #[.int .i64 a0_10, .int .i64 12] rfl (by (try simp only [List.map_toArray, List.map_cons, List.map_nil]); first | done | rfl | (simp only [List.length_drop, List.length_take]; rfl)) ?_; (with_reducible refine (reelkeeperref04_fits.calls a0_10 12 t111 _ A46.out).mono ?_); rintro e w57 ⟨rfl, hb⟩; refine ⟨_, rfl, ?_⟩; have n0_ := Aside0.mk (blk_below (g := gb101) (o := .cells #[.string a0_0, .string a0_1, .string a0_2, .int .i64 a0_3, .int .i64 a0_4, .int .i64 a0_5, .int .i64 a0_6, .int .i64 a0_7, .int .u8 a0_8, .int .i64 a0_9, .int .i64 a0_10] 71 (0, 0)) (by (with_reducible repeat (first | refine blk_drewN ?_ _ | refine blk_drew ?_ | refine blk_alloc ?_ _)); exact BK101.out) hb); have n1_ := Aside0.mk (below_step (by repeat (first | (with_reducible first | exact HB.out | apply below_alloc | apply pw_below_drewN | apply below_drew1 | refine below_set ?_ GE101.out) | exact HB.out)) hb); clear BK101; clear HB; have BK101 := n0_; have HB := n1_; clear n0_ n1_; (try clear hb); (try clear hb2); (try clear hk); (try clear hi); have hcz58_0 : w57.cell? ⟨gb101, 0, none⟩ = some (.string a0_0) := (blk_cell BK101.out 0).trans rfl; have hcz58_1 : w57.cell? ⟨gb101, 1, none⟩ = some (.string a0_1) := (blk_cell BK101.out 1).trans rfl; have hcz58_2 : w57.cell? ⟨gb101, 2, none⟩ = some (.string a0_2) := (blk_cell BK101.out 2).trans rfl; have hcz58_3 : w57.cell? ⟨gb101, 3, none⟩ = some (.int .i64 a0_3) := (blk_cell BK101.out 3).trans rfl; have hcz58_4 : w57.cell? ⟨gb101, 4, none⟩ = some (.int .i64 a0_4) := (blk_cell BK101.out 4).trans rfl; have hcz58_5 : w57.cell? ⟨gb101, 5, none⟩ = some (.int .i64 a0_5) := (blk_cell BK101.out 5).trans rfl; have hcz58_6 : w57.cell? ⟨gb101, 6, none⟩ = some (.int .i64 a0_6) := (blk_cell BK101.out 6).trans rfl; have hcz58_7 : w57.cell? ⟨gb101, 7, none⟩ = some (.int .i64 a0_7) := (blk_cell BK101.out 7).trans rfl; have hcz58_8 : w57.cell? ⟨gb101, 8, none⟩ = some (.int .u8 a0_8) := (blk_cell BK101.out 8).trans rfl; have hcz58_9 : w57.cell? ⟨gb101, 9, none⟩ = some (.int .i64 a0_9) := (blk_cell BK101.out 9).trans rfl; have hcz58_10 : w57.cell? ⟨gb101, 10, none⟩ = some (.int .i64 a0_10) := (blk_cell BK101.out 10).trans rfl; have hfz58_0 := blk_frozen BK101.out 0; have hfz58_1 := blk_frozen BK101.out 1; have hfz58_2 := blk_frozen BK101.out 2; have hfz58_3 := blk_frozen BK101.out 3; have hfz58_4 := blk_frozen BK101.out 4; have hfz58_5 := blk_frozen BK101.out 5; have hfz58_6 := blk_frozen BK101.out 6; have hfz58_7 := blk_frozen BK101.out 7; have hfz58_8 := blk_frozen BK101.out 8; have hfz58_9 := blk_frozen BK101.out 9; have hfz58_10 := blk_frozen BK101.out 10))
                    go_ret
                    exact ⟨by first | rfl | (simp [errW_none, errW_some] <;> rfl) | (simp [*, errW_none, errW_some] <;> rfl), by repeat (first | (with_reducible first | exact HB.out | apply below_alloc | apply pw_below_drewN | apply below_drew1 | refine below_set ?_ GE101.out) | exact HB.out)⟩
                · rw [if_neg c47] at H
                  have c47b0 : (a0_1.toList == ([] : List UInt8)) = false := beq_eq_false_iff_ne.mpr c47
                  have c47b1 : (a0_1.toList != ([] : List UInt8)) = true := bne_iff_ne.mpr c47
                  obtain rfl := Option.some.inj H
                  have hcz59_0 : wc.cell? ⟨gb101, 0, none⟩ = some (.string a0_0) := (blk_cell BK101.out 0).trans rfl
                  have hcz59_1 : wc.cell? ⟨gb101, 1, none⟩ = some (.string a0_1) := (blk_cell BK101.out 1).trans rfl
                  have hcz59_2 : wc.cell? ⟨gb101, 2, none⟩ = some (.string a0_2) := (blk_cell BK101.out 2).trans rfl
                  have hcz59_3 : wc.cell? ⟨gb101, 3, none⟩ = some (.int .i64 a0_3) := (blk_cell BK101.out 3).trans rfl
                  have hcz59_4 : wc.cell? ⟨gb101, 4, none⟩ = some (.int .i64 a0_4) := (blk_cell BK101.out 4).trans rfl
                  have hcz59_5 : wc.cell? ⟨gb101, 5, none⟩ = some (.int .i64 a0_5) := (blk_cell BK101.out 5).trans rfl
                  have hcz59_6 : wc.cell? ⟨gb101, 6, none⟩ = some (.int .i64 a0_6) := (blk_cell BK101.out 6).trans rfl
                  have hcz59_7 : wc.cell? ⟨gb101, 7, none⟩ = some (.int .i64 a0_7) := (blk_cell BK101.out 7).trans rfl
                  have hcz59_8 : wc.cell? ⟨gb101, 8, none⟩ = some (.int .u8 a0_8) := (blk_cell BK101.out 8).trans rfl
                  have hcz59_9 : wc.cell? ⟨gb101, 9, none⟩ = some (.int .i64 a0_9) := (blk_cell BK101.out 9).trans rfl
                  have hcz59_10 : wc.cell? ⟨gb101, 10, none⟩ = some (.int .i64 a0_10) := (blk_cell BK101.out 10).trans rfl
                  have hfz59_0 := blk_frozen BK101.out 0
                  have hfz59_1 := blk_frozen BK101.out 1
                  have hfz59_2 := blk_frozen BK101.out 2
                  have hfz59_3 := blk_frozen BK101.out 3
                  have hfz59_4 := blk_frozen BK101.out 4
                  have hfz59_5 := blk_frozen BK101.out 5
                  have hfz59_6 := blk_frozen BK101.out 6
                  have hfz59_7 := blk_frozen BK101.out 7
                  have hfz59_8 := blk_frozen BK101.out 8
                  have hfz59_9 := blk_frozen BK101.out 9
                  have hfz59_10 := blk_frozen BK101.out 10
                  go_wp2_with (first | ((with_reducible refine gate_callee (f := 108) rfl ?_); refine goesL_ (some 94) rfl rfl Try.func108 (by kernel_rfl) rfl #[.int .i64 a0_9, .int .i64 12] rfl (by (try simp only [List.map_toArray, List.map_cons, List.map_nil]); first | done | rfl | (simp only [List.length_drop, List.length_take]; rfl)) ?_; (with_reducible refine (reelkeeperref04_fits.calls a0_9 12 t110 _ A45.out).mono ?_); rintro e w60 ⟨rfl, hb⟩; refine ⟨_, rfl, ?_⟩; have n0_ := Aside0.mk (blk_below (g := gb101) (o := .cells #[.string a0_0, .string a0_1, .string a0_2, .int .i64 a0_3, .int .i64 a0_4, .int .i64 a0_5, .int .i64 a0_6, .int .i64 a0_7, .int .u8 a0_8, .int .i64 a0_9, .int .i64 a0_10] 71 (0, 0)) (by (with_reducible repeat (first | refine blk_drewN ?_ _ | refine blk_drew ?_ | refine blk_alloc ?_ _)); exact BK101.out) hb); have n1_ := Aside0.mk (below_step (by repeat (first | (with_reducible first | exact HB.out | apply below_alloc | apply pw_below_drewN | apply below_drew1 | refine below_set ?_ GE101.out) | exact HB.out)) hb); clear BK101; clear HB; have BK101 := n0_; have HB := n1_; clear n0_ n1_; (try clear hb); (try clear hb2); (try clear hk); (try clear hi); have hcz61_0 : w60.cell? ⟨gb101, 0, none⟩ = some (.string a0_0) := (blk_cell BK101.out 0).trans rfl; have hcz61_1 : w60.cell? ⟨gb101, 1, none⟩ = some (.string a0_1) := (blk_cell BK101.out 1).trans rfl; have hcz61_2 : w60.cell? ⟨gb101, 2, none⟩ = some (.string a0_2) := (blk_cell BK101.out 2).trans rfl; have hcz61_3 : w60.cell? ⟨gb101, 3, none⟩ = some (.int .i64 a0_3) := (blk_cell BK101.out 3).trans rfl; have hcz61_4 : w60.cell? ⟨gb101, 4, none⟩ = some (.int .i64 a0_4) := (blk_cell BK101.out 4).trans rfl; have hcz61_5 : w60.cell? ⟨gb101, 5, none⟩ = some (.int .i64 a0_5) := (blk_cell BK101.out 5).trans rfl; have hcz61_6 : w60.cell? ⟨gb101, 6, none⟩ = some (.int .i64 a0_6) := (blk_cell BK101.out 6).trans rfl; have hcz61_7 : w60.cell? ⟨gb101, 7, none⟩ = some (.int .i64 a0_7) := (blk_cell BK101.out 7).trans rfl; have hcz61_8 : w60.cell? ⟨gb101, 8, none⟩ = some (.int .u8 a0_8) := (blk_cell BK101.out 8).trans rfl; have hcz61_9 : w60.cell? ⟨gb101, 9, none⟩ = some (.int .i64 a0_9) := (blk_cell BK101.out 9).trans rfl; have hcz61_10 : w60.cell? ⟨gb101, 10, none⟩ = some (.int .i64 a0_10) := (blk_cell BK101.out 10).trans rfl; have hfz61_0 := blk_frozen BK101.out 0; have hfz61_1 := blk_frozen BK101.out 1; have hfz61_2 := blk_frozen BK101.out 2; have hfz61_3 := blk_frozen BK101.out 3; have hfz61_4 := blk_frozen BK101.out 4; have hfz61_5 := blk_frozen BK101.out 5; have hfz61_6 := blk_frozen BK101.out 6; have hfz61_7 := blk_frozen BK101.out 7; have hfz61_8 := blk_frozen BK101.out 8; have hfz61_9 := blk_frozen BK101.out 9; have hfz61_10 := blk_frozen BK101.out 10) | ((with_reducible refine gate_callee (f := 108) rfl ?_); refine goesL_ (some 97) rfl rfl Try.func108 (by kernel_rfl) rfl #[.int .i64 a0_10, .int .i64 12] rfl (by (try simp only [List.map_toArray, List.map_cons, List.map_nil]); first | done | rfl | (simp only [List.length_drop, List.length_take]; rfl)) ?_; (with_reducible refine (reelkeeperref04_fits.calls a0_10 12 t111 _ A46.out).mono ?_); rintro e w62 ⟨rfl, hb⟩; refine ⟨_, rfl, ?_⟩; have n0_ := Aside0.mk (blk_below (g := gb101) (o := .cells #[.string a0_0, .string a0_1, .string a0_2, .int .i64 a0_3, .int .i64 a0_4, .int .i64 a0_5, .int .i64 a0_6, .int .i64 a0_7, .int .u8 a0_8, .int .i64 a0_9, .int .i64 a0_10] 71 (0, 0)) (by (with_reducible repeat (first | refine blk_drewN ?_ _ | refine blk_drew ?_ | refine blk_alloc ?_ _)); exact BK101.out) hb); have n1_ := Aside0.mk (below_step (by repeat (first | (with_reducible first | exact HB.out | apply below_alloc | apply pw_below_drewN | apply below_drew1 | refine below_set ?_ GE101.out) | exact HB.out)) hb); clear BK101; clear HB; have BK101 := n0_; have HB := n1_; clear n0_ n1_; (try clear hb); (try clear hb2); (try clear hk); (try clear hi); have hcz63_0 : w62.cell? ⟨gb101, 0, none⟩ = some (.string a0_0) := (blk_cell BK101.out 0).trans rfl; have hcz63_1 : w62.cell? ⟨gb101, 1, none⟩ = some (.string a0_1) := (blk_cell BK101.out 1).trans rfl; have hcz63_2 : w62.cell? ⟨gb101, 2, none⟩ = some (.string a0_2) := (blk_cell BK101.out 2).trans rfl; have hcz63_3 : w62.cell? ⟨gb101, 3, none⟩ = some (.int .i64 a0_3) := (blk_cell BK101.out 3).trans rfl; have hcz63_4 : w62.cell? ⟨gb101, 4, none⟩ = some (.int .i64 a0_4) := (blk_cell BK101.out 4).trans rfl; have hcz63_5 : w62.cell? ⟨gb101, 5, none⟩ = some (.int .i64 a0_5) := (blk_cell BK101.out 5).trans rfl; have hcz63_6 : w62.cell? ⟨gb101, 6, none⟩ = some (.int .i64 a0_6) := (blk_cell BK101.out 6).trans rfl; have hcz63_7 : w62.cell? ⟨gb101, 7, none⟩ = some (.int .i64 a0_7) := (blk_cell BK101.out 7).trans rfl; have hcz63_8 : w62.cell? ⟨gb101, 8, none⟩ = some (.int .u8 a0_8) := (blk_cell BK101.out 8).trans rfl; have hcz63_9 : w62.cell? ⟨gb101, 9, none⟩ = some (.int .i64 a0_9) := (blk_cell BK101.out 9).trans rfl; have hcz63_10 : w62.cell? ⟨gb101, 10, none⟩ = some (.int .i64 a0_10) := (blk_cell BK101.out 10).trans rfl; have hfz63_0 := blk_frozen BK101.out 0; have hfz63_1 := blk_frozen BK101.out 1; have hfz63_2 := blk_frozen BK101.out 2; have hfz63_3 := blk_frozen BK101.out 3; have hfz63_4 := blk_frozen BK101.out 4; have hfz63_5 := blk_frozen BK101.out 5; have hfz63_6 := blk_frozen BK101.out 6; have hfz63_7 := blk_frozen BK101.out 7; have hfz63_8 := blk_frozen BK101.out 8; have hfz63_9 := blk_frozen BK101.out 9; have hfz63_10 := blk_frozen BK101.out 10))
                  go_ret
                  exact ⟨by first | rfl | (simp [errW_none, errW_some] <;> rfl) | (simp [*, errW_none, errW_some] <;> rfl), by repeat (first | (with_reducible first | exact HB.out | apply below_alloc | apply pw_below_drewN | apply below_drew1 | refine below_set ?_ GE101.out) | exact HB.out)⟩
              · rw [if_neg c44] at H
                have c44b0 : (a0_8 == 77) = false := beq_eq_false_iff_ne.mpr c44
                have c44b1 : (a0_8 != 77) = true := bne_iff_ne.mpr c44
                obtain rfl := Option.some.inj H
                go_wp2
                go_ret
                exact ⟨by first | rfl | (simp [errW_none, errW_some] <;> rfl) | (simp [*, errW_none, errW_some] <;> rfl), by repeat (first | (with_reducible first | exact HB.out | apply below_alloc | apply pw_below_drewN | apply below_drew1 | refine below_set ?_ GE101.out) | exact HB.out)⟩

end Go.Proofs.Ytddjnicmpgbcgaa.X
namespace Go.Proofs.Ytddjnicmpgbcgaa.X
open Go.RowKit Go.Proofs.YtddjnicmpgbcgaaW.PrintWords Go.Proofs.YtddjnicmpgbcgaaW.PrintLast Go.Proofs.YtddjnicmpgbcgaaW.PrintMore
attribute [local go_sem] max2_int min2_int max_two min_two max_three min_three max_four min_four
set_option linter.unusedVariables false
set_option linter.unusedSimpArgs false

/-! ### reelkeeperref04_Sum: function 97 -/
def reelkeeperref04_Sum.l0 : Nat → List Int → Int → Int → Option (Int)
  | 0, _, _, _ => none
  | k + 1, x0, x3, x4 => if x4 < 512 then (if x4 ≥ 148 then (if x4 < 156 then (reelkeeperref04_Sum.l0 k x0 (wrap64 (x3 + 32)) (wrap64 (x4 + 1))) else (if 0 ≤ x4 then (if x4 < (x0.length : Int) then (reelkeeperref04_Sum.l0 k x0 (wrap64 (x3 + (wrap64 (rd x0 x4)))) (wrap64 (x4 + 1))) else (none)) else (none))) else (if 0 ≤ x4 then (if x4 < (x0.length : Int) then (reelkeeperref04_Sum.l0 k x0 (wrap64 (x3 + (wrap64 (rd x0 x4)))) (wrap64 (x4 + 1))) else (none)) else (none))) else (some x3)
def reelkeeperref04_Sum.f (k : Nat) (l0 : List Int) : Option (Int) := if (l0.length : Int) = 512 then (reelkeeperref04_Sum.l0 k l0 0 0) else (some (-1))
theorem reelkeeperref04_Sum.mono_l : ∀ k, (∀ y0 y1 y2, LeO (reelkeeperref04_Sum.l0 k y0 y1 y2) (reelkeeperref04_Sum.l0 (k + 1) y0 y1 y2))
  | 0 => fun _ _ _ r h => by simp [reelkeeperref04_Sum.l0] at h
  | k + 1 => by
    have ih0 := reelkeeperref04_Sum.mono_l k
    · intro y0 y1 y2
      unfold reelkeeperref04_Sum.l0
      repeat' first
      | (with_reducible exact ih0 _ _ _)
      | (with_reducible exact LeO.refl _)
      | (with_reducible exact LeO.none _)
      | (with_reducible refine LeO.ite ?_ ?_)
      | (with_reducible refine LeO.bind ?_ (fun _ => ?_))
      | exact ih0 _ _ _
      | exact LeO.none _
      | refine LeO.ite ?_ ?_
      | refine LeO.bind ?_ (fun _ => ?_)
theorem reelkeeperref04_Sum.mono : ∀ a0 k, LeO (reelkeeperref04_Sum.f k a0) (reelkeeperref04_Sum.f (k + 1) a0) := by
  intro a0 k
  have ih0 := reelkeeperref04_Sum.mono_l k
  unfold reelkeeperref04_Sum.f
  repeat' first
      | (with_reducible exact ih0 _ _ _)
      | (with_reducible exact LeO.refl _)
      | (with_reducible exact LeO.none _)
      | (with_reducible refine LeO.ite ?_ ?_)
      | (with_reducible refine LeO.bind ?_ (fun _ => ?_))
      | exact ih0 _ _ _
      | exact LeO.none _
      | refine LeO.ite ?_ ?_
      | refine LeO.bind ?_ (fun _ => ?_)
set_option maxHeartbeats 8000000 in
set_option maxRecDepth 100000 in
theorem reelkeeperref04_Sum.calls (k : Nat) (A0 : Option Addr) (c0 : Nat) (l0 : List Int) (r : Int) (w : World) (hr0 : Kd.C (Kd.int .u8) w A0 l0.length l0) (hc0 : l0.length ≤ c0) (h : reelkeeperref04_Sum.f k l0 = some r) :
    Calls Try.prog 97 #[.slice A0 l0.length c0] w fun e w' => e = .returned (.int .i64 r) ∧ Drawn0 w w' := by
  have HR0 := Aside0.mk hr0
  have HC0 := Aside0.mk hc0
  clear hr0 hc0
  have H : (if (l0.length : Int) = 512 then (reelkeeperref04_Sum.l0 k l0 0 0) else (some (-1))) = some r := h
  clear h
  by_cases c2 : (l0.length : Int) = 512
  · rw [if_pos c2] at H
    have c2b0 : ((l0.length : Int) == 512) = true := beq_iff_eq.mpr c2
    have c2b1 : ((l0.length : Int) != 512) = false := bne_eq_false_iff_eq.mpr c2
    clear c2
    have H' := Aside0.mk H
    clear H
    go_enter Try.func97, Try.ntmps97
    go_wp2
    go_loopg [3, 4] k (fun kq v3 v4 w' => ∃ (x3_1 : Int) (x4_1 : Int), v3 = .int .i64 x3_1 ∧ v4 = .int .i64 x4_1 ∧ Aside0 (reelkeeperref04_Sum.l0 kq l0 x3_1 x4_1 = some r) ∧ Aside0 (kq ≤ k) ∧ Drawn0 w w')
    case atStart => exact ⟨(0), (0), (by first | rfl | (simp; done) | (simp [*]; done)), (by first | rfl | (simp; done) | (simp [*]; done)), H', ⟨Nat.le_refl _⟩, by repeat (first | exact Drawn0.refl _ | apply Drawn0.step)⟩
    case round =>
      clear H'
      try clear c2
      try clear c2b0
      try clear c2b1
      try clear p2
      obtain ⟨x3_1, x4_1, rfl, rfl, HA, HK1, ⟨m1, rfl⟩⟩ := hrel
      cases gk with
      | zero => exact absurd HA.out (by simp [reelkeeperref04_Sum.l0])
      | succ k1 =>
        have H := HA.out
        clear HA
        simp only [reelkeeperref04_Sum.l0] at H
        by_cases c3 : x4_1 < 512
        · rw [if_pos c3] at H
          have c3b0 : decide (x4_1 < 512) = true := decide_eq_true c3
          clear c3
          by_cases c4 : x4_1 ≥ 148
          · rw [if_pos c4] at H
            have c4b0 : decide (148 ≤ x4_1) = true := decide_eq_true c4
            clear c4
            by_cases c5 : x4_1 < 156
            · rw [if_pos c5] at H
              have c5b0 : decide (x4_1 < 156) = true := decide_eq_true c5
              clear c5
              have H' := Aside0.mk H
              clear H
              go_wp2
              go_roundg k1
              case measure => have := HK1.out; omega
              case rel => exact ⟨(wrap64 (x3_1 + 32)), (wrap64 (x4_1 + 1)), (by first | rfl | (simp; done) | (simp [*]; done)), (by first | rfl | (simp; done) | (simp [*]; done)), H', ⟨by have := HK1.out; omega⟩, by repeat (first | exact Drawn0.refl _ | apply Drawn0.step)⟩
            · rw [if_neg c5] at H
              have c5b0 : decide (x4_1 < 156) = false := decide_eq_false c5
              clear c5
              by_cases c6 : 0 ≤ x4_1
              · rw [if_pos c6] at H
                have c6b0 : decide (0 ≤ x4_1) = true := decide_eq_true c6
                clear c6
                by_cases c7 : x4_1 < (l0.length : Int)
                · rw [if_pos c7] at H
                  have c7b0 : decide (x4_1 < (l0.length : Int)) = true := decide_eq_true c7
                  clear c7
                  have H' := Aside0.mk H
                  clear H
                  have p101 : 0 ≤ (x4_1 : Int) := of_decide_eq_true (by first | (with_reducible assumption) | assumption)
                  have q101 : x4_1 < (l0.length : Int) := of_decide_eq_true (by first | (with_reducible assumption) | assumption)
                  obtain ⟨ad101, e101, hx101_0⟩ := Kd.at_int HR0.out x4_1 p101 q101
                  cases e101
                  replace p101 := eq_true p101
                  replace q101 := eq_true q101
                  go_wp2
                  go_roundg k1
                  case measure => have := HK1.out; omega
                  case rel => exact ⟨(wrap64 (x3_1 + (wrap64 (rd l0 x4_1)))), (wrap64 (x4_1 + 1)), (by first | rfl | (simp; done) | (simp [*]; done)), (by first | rfl | (simp; done) | (simp [*]; done)), H', ⟨by have := HK1.out; omega⟩, by repeat (first | exact Drawn0.refl _ | apply Drawn0.step)⟩
                · rw [if_neg c7] at H
                  exact absurd H (by simp)
              · rw [if_neg c6] at H
                exact absurd H (by simp)
          · rw [if_neg c4] at H
            have c4b0 : decide (148 ≤ x4_1) = false := decide_eq_false c4
            clear c4
            by_cases c8 : 0 ≤ x4_1
            · rw [if_pos c8] at H
              have c8b0 : decide (0 ≤ x4_1) = true := decide_eq_true c8
              clear c8
              by_cases c9 : x4_1 < (l0.length : Int)
              · rw [if_pos c9] at H
                have c9b0 : decide (x4_1 < (l0.length : Int)) = true := decide_eq_true c9
                clear c9
                have H' := Aside0.mk H
                clear H
                have p102 : 0 ≤ (x4_1 : Int) := of_decide_eq_true (by first | (with_reducible assumption) | assumption)
                have q102 : x4_1 < (l0.length : Int) := of_decide_eq_true (by first | (with_reducible assumption) | assumption)
                obtain ⟨ad102, e102, hx102_0⟩ := Kd.at_int HR0.out x4_1 p102 q102
                cases e102
                replace p102 := eq_true p102
                replace q102 := eq_true q102
                go_wp2
                go_roundg k1
                case measure => have := HK1.out; omega
                case rel => exact ⟨(wrap64 (x3_1 + (wrap64 (rd l0 x4_1)))), (wrap64 (x4_1 + 1)), (by first | rfl | (simp; done) | (simp [*]; done)), (by first | rfl | (simp; done) | (simp [*]; done)), H', ⟨by have := HK1.out; omega⟩, by repeat (first | exact Drawn0.refl _ | apply Drawn0.step)⟩
              · rw [if_neg c9] at H
                exact absurd H (by simp)
            · rw [if_neg c8] at H
              exact absurd H (by simp)
        · rw [if_neg c3] at H
          have c3b0 : decide (x4_1 < 512) = false := decide_eq_false c3
          clear c3
          obtain rfl := Option.some.inj H
          go_wp2
          go_ret
          exact ⟨by first | rfl | (simp; done) | (simp [*]; done), by repeat (first | exact Drawn0.refl _ | apply Drawn0.step)⟩
  · rw [if_neg c2] at H
    have c2b0 : ((l0.length : Int) == 512) = false := beq_eq_false_iff_ne.mpr c2
    have c2b1 : ((l0.length : Int) != 512) = true := bne_iff_ne.mpr c2
    obtain rfl := Option.some.inj H
    go_enter Try.func97, Try.ntmps97
    go_wp2
    go_ret
    exact ⟨by first | rfl | (simp; done) | (simp [*]; done), by repeat (first | exact Drawn0.refl _ | apply Drawn0.step)⟩

end Go.Proofs.Ytddjnicmpgbcgaa.X
namespace Go.Proofs.Ytddjnicmpgbcgaa.X
open Go.RowKit Go.Proofs.YtddjnicmpgbcgaaW.PrintWords Go.Proofs.YtddjnicmpgbcgaaW.PrintLast Go.Proofs.YtddjnicmpgbcgaaW.PrintMore
attribute [local go_sem] max2_int min2_int max_two min_two max_three min_three max_four min_four
set_option linter.unusedVariables false
set_option linter.unusedSimpArgs false

open Go.Proofs.YtddjnicmpgbcgaaY
def rb0 (h : Hd) : List Int := splice (List.replicate 512 0) 0 (bytesOf h.f0)
def rb1 (h : Hd) : List Int := splice (splice (splice (splice (splice (rb0 h) 100 (putN h.f3 8).1) 108 (putN h.f4 8).1) 116 (putN h.f5 8).1) 124 (putN h.f6 12).1) 136 (putN h.f7 12).1
def rb2 (h : Hd) : List Int := splice (splice ((rb1 h).set 156 h.f8) 157 (bytesOf h.f2)) 257 [117, 115, 116, 97, 114, 0, 48, 48]
def rb3 (h : Hd) : List Int := if h.f8 = 77 then splice (splice (rb2 h) 369 (putN h.f9 12).1) 483 (putN h.f10 12).1 else splice (rb2 h) 345 (bytesOf h.f1)
/-- A header's block, as the reference lays it. -/
def refBlk (h : Hd) : List Int := splice (rb3 h) 148 (signL (sumL (rb3 h) 0))
theorem refSum_ev (l : List Int) (hl : l.length = 512) (hr : ∀ c ∈ l, 0 ≤ c ∧ c ≤ 255) : Ev (fun k => reelkeeperref04_Sum.f k l) (sumL l 0) := by
  have key : ∀ (d i : Nat) (s : Int), i + d = 512 → 0 ≤ s → s ≤ 255 * i → Ev (fun k => reelkeeperref04_Sum.l0 k l s (i : Int)) (s + sumL (l.drop i) i) := by
    intro d
    induction d with
    | zero =>
      intro i s hi h0 h1
      refine Ev.step (fun _ => rfl) ?_
      simp only [reelkeeperref04_Sum.l0]
      refine Ev.ifn (by omega) ?_
      rw [List.drop_of_length_le (by omega), sumL, Int.add_zero]
      exact Ev.now _
    | succ d ih =>
      intro i s hi h0 h1
      have hlt : i < l.length := by omega
      have hrd : rd l (i : Int) = l[i] := by unfold rd; simp [List.getD_eq_getElem?_getD, List.getElem?_eq_getElem hlt]
      have hb := hr l[i] (List.getElem_mem hlt)
      have hd : l.drop i = l[i] :: l.drop (i + 1) := List.drop_eq_getElem_cons hlt
      refine Ev.step (fun _ => rfl) ?_
      simp only [reelkeeperref04_Sum.l0]
      refine Ev.ifp (by omega) ?_
      have hw : wrap64 ((i : Int) + 1) = ((i + 1 : Nat) : Int) := by unfold wrap64; omega
      have hw2 : wrap64 l[i] = l[i] := by unfold wrap64; omega
      have hw3 : wrap64 (s + l[i]) = s + l[i] := by unfold wrap64; omega
      have hw4 : wrap64 (s + 32) = s + 32 := by unfold wrap64; omega
      rw [hw, hrd, hd, sumL, hw2, hw3, hw4]
      clear hw hw2 hw3 hw4
      by_cases c1 : (i : Int) ≥ 148
      · refine Ev.ifp c1 ?_
        by_cases c2 : (i : Int) < 156
        · refine Ev.ifp c2 ?_
          rw [if_pos (by omega), ← Int.add_assoc]
          exact ih (i + 1) (s + 32) (by omega) (by omega) (by omega)
        · refine Ev.ifn c2 ?_
          rw [if_neg (by omega), ← Int.add_assoc]
          refine Ev.ifp (by omega) ?_
          refine Ev.ifp (by omega) ?_
          exact ih (i + 1) (s + l[i]) (by omega) (by omega) (by omega)
      · refine Ev.ifn c1 ?_
        rw [if_neg (by omega), ← Int.add_assoc]
        refine Ev.ifp (by omega) ?_
        refine Ev.ifp (by omega) ?_
        exact ih (i + 1) (s + l[i]) (by omega) (by omega) (by omega)
  have h := key 512 0 0 rfl (Int.le_refl _) (by omega)
  rw [List.drop_zero, Int.zero_add] at h
  unfold reelkeeperref04_Sum.f
  exact Ev.ifp (by omega) h
theorem reelkeeperref04_Sum.at_ (A : Option Addr) (c : Nat) (l : List Int) (w : World) (hl : l.length = 512) (hr : ∀ c ∈ l, 0 ≤ c ∧ c ≤ 255) (hC : Kd.C (Kd.int .u8) w A l.length l) (hc : l.length ≤ c) :
    Calls Try.prog 97 #[.slice A l.length c] w fun e w' => e = .returned (.int .i64 (sumL l 0)) ∧ Drawn0 w w' := by
  obtain ⟨k, hk⟩ := (refSum_ev l hl hr).rounds
  exact reelkeeperref04_Sum.calls k A c l _ w hC hc hk
theorem RowAt.set156 {w : World} {h : Hd} {g : Nat} {l : List Int} {W : World} (k : RowAt w h g l W) (x : Int) (hx : 0 ≤ x ∧ x ≤ 255) : RowAt w h g (l.set 156 x) (W.setCell ⟨g, 156, none⟩ (.int .u8 x)) :=
  k.turn (Turn.setCell _ _ rfl) (by rw [← nums_set]; exact blk_set k.row 156 _) (by rw [List.length_set]; exact k.len) (fun c hc => by
    rcases List.mem_or_eq_of_mem_set hc with h | rfl
    · exact k.byte c h
    · exact hx)
theorem RowAt.layS {w : World} {h : Hd} {g : Nat} {l : List Int} {W : World} (k : RowAt w h g l W) (at_ : Int) (h0 : 0 ≤ at_) (s : ByteArray) (hfit : at_.toNat + s.size ≤ 512) :
    Calls Try.prog 94 #[.slice (some ⟨g, 0, none⟩) 512 512, .int .i64 at_, .slice (some ⟨W.heap.size, 0, none⟩) s.size (grownCap W s.size 0 5)] (Lib.bytesWorld W 5 s) fun e w' => e = .returned (.slice (some ⟨g, 0, none⟩) 512 512) ∧ RowAt w h g (splice l at_.toNat (bytesOf s)) w' := by
  have hgW := blk_lt k.row
  have hcc := bytes_C (W := W) (s := s) (by omega)
  have hbo := bytesOf_length s
  have := (k.below (bytes_below (Below.refl _ _) (Nat.le_refl _) 5 s)).lay at_ h0 (some ⟨W.heap.size, 0, none⟩) (grownCap W s.size 0 5) (bytesOf s) (by rw [hbo]; exact hcc) (fun ad h => by cases h; simp only; omega) (by rw [hbo]; exact hfit) (byteOk_bytesOf s)
  rw [hbo] at this
  exact this
theorem RowAt.layB {w : World} {h : Hd} {g : Nat} {l : List Int} {W : World} (k : RowAt w h g l W) (at_ : Int) (h0 : 0 ≤ at_) (x : List Int) (hfit : at_.toNat + x.length ≤ 512) (hx : byteOk x) :
    Calls Try.prog 94 #[.slice (some ⟨g, 0, none⟩) 512 512, .int .i64 at_, .slice (some ⟨W.heap.size, 0, none⟩) x.length x.length] (W.alloc (.cells (nums .u8 x).toArray 5)) fun e w' => e = .returned (.slice (some ⟨g, 0, none⟩) 512 512) ∧ RowAt w h g (splice l at_.toNat x) w' := by
  have hgW := blk_lt k.row
  exact (k.below (below_alloc (Below.refl _ _) _)).lay at_ h0 (some ⟨W.heap.size, 0, none⟩) x.length x (C_block (heap_alloc_new W _) (by omega)) (fun ad h => by cases h; simp only; omega) hfit hx
theorem hdFits {h : Hd} (hok : hdOk h = true) : (h.f0.size ≤ 100 ∧ h.f2.size ≤ 100 ∧ (h.f8 ≠ 77 → h.f1.size ≤ 155)) ∧ (putN h.f3 8).1.length = 8 ∧ (putN h.f4 8).1.length = 8 ∧ (putN h.f5 8).1.length = 8 ∧ (putN h.f6 12).1.length = 12 ∧ (putN h.f7 12).1.length = 12 ∧ (h.f8 = 77 → (putN h.f9 12).1.length = 12 ∧ (putN h.f10 12).1.length = 12) := by
  obtain ⟨h1, h2⟩ := hdOk_parts hok
  have w : ∀ x ∈ hdWords h, (x.2.2.2.size : Int) ≤ x.2.1 := by
    intro x hx
    have := List.all_eq_true.1 h1 x hx
    unfold wordOk at this
    simp only [Bool.and_eq_true, decide_eq_true_eq] at this
    exact this.1
  have n : ∀ x ∈ hdNumbers h, (putN x.2.2.2 x.2.1).1.length = x.2.1.toNat := fun x hx => (putN_length (List.all_eq_true.1 h2 x hx)).1
  unfold hdWords at w
  unfold hdNumbers at n
  refine ⟨⟨?_, ?_, fun hne => ?_⟩, n (100, 8, 3, h.f3) (by simp), n (108, 8, 4, h.f4) (by simp), n (116, 8, 5, h.f5) (by simp), n (124, 12, 6, h.f6) (by simp), n (136, 12, 7, h.f7) (by simp), fun he => ⟨?_, ?_⟩⟩
  · have := w (0, 100, 0, h.f0) (by simp); simp only at this; omega
  · have := w (157, 100, 2, h.f2) (by simp); simp only at this; omega
  · have := w (345, 155, 1, h.f1) (by rw [if_neg hne]; simp); simp only at this; omega
  · exact n (369, 12, 9, h.f9) (by rw [if_pos he]; simp)
  · exact n (483, 12, 10, h.f10) (by rw [if_pos he]; simp)
theorem RowAt.cell156 {w : World} {h : Hd} {g : Nat} {l : List Int} {W : World} (k : RowAt w h g l W) : ∃ u, W.cell? ⟨g, 156, none⟩ = some (.int .u8 u) ∧ W.frozen? ⟨g, 156, none⟩ = false := by
  have h1 := blk_cell k.row 156
  rw [List.getElem?_toArray] at h1
  unfold nums at h1
  rw [List.getElem?_map, List.getElem?_eq_getElem (by rw [k.len]; decide)] at h1
  exact ⟨_, h1, blk_frozen k.row 156⟩
theorem RowAt.sum {w : World} {h : Hd} {g : Nat} {l : List Int} {W : World} (k : RowAt w h g l W) :
    Calls Try.prog 97 #[.slice (some ⟨g, 0, none⟩) 512 512] W fun e w' => e = .returned (.int .i64 (sumL l 0)) ∧ RowAt w h g l w' := by
  have hl := k.len
  have := reelkeeperref04_Sum.at_ (some ⟨g, 0, none⟩) 512 l W hl k.byte (C_block k.row (by rw [hl]; decide)) (by rw [hl]; exact Nat.le_refl _)
  rw [hl] at this
  refine this.mono ?_
  rintro e w' ⟨rfl, n, rfl⟩
  exact ⟨rfl, k.below (pw_below_drewN (Below.refl _ _) _)⟩
theorem RowAt.sign {w : World} {h : Hd} {g : Nat} {l : List Int} {W : World} (k : RowAt w h g l W) :
    Calls Try.prog 96 #[.int .i64 (sumL l 0)] W fun e w' => ∃ A c, e = .returned (.slice A (signL (sumL l 0)).length c) ∧ RowAt w h g l w' ∧
      Calls Try.prog 94 #[.slice (some ⟨g, 0, none⟩) 512 512, .int .i64 148, .slice A (signL (sumL l 0)).length c] w' fun e w' => e = .returned (.slice (some ⟨g, 0, none⟩) 512 512) ∧ RowAt w h g (splice l 148 (signL (sumL l 0))) w' := by
  have hb := sumL_bd l 0 k.byte
  rw [k.len] at hb
  obtain ⟨n, hn⟩ := Int.eq_ofNat_of_zero_le hb.1
  rw [hn] at hb ⊢
  have hgW := blk_lt k.row
  refine (ref04_sign.at_ n (by omega) W).mono ?_
  rintro e w' ⟨A, c, rfl, hc, hC, hB, hA⟩
  refine ⟨A, c, rfl, k.below hB, ?_⟩
  have h8 : (signL (n : Int)).length = 8 := by
    unfold signL
    rw [List.length_append, octL_length]
    rfl
  exact (k.below hB).lay 148 (by decide) A c _ hC (fun ad h => by have := hA ad h; omega) (by rw [h8]; decide) (signL_byte _)
set_option maxHeartbeats 3200000 in
set_option maxRecDepth 100000 in
theorem reelkeeperref04_Put.ok (k : Nat) (h : Hd) (w : World) (hh : hdIn h) (hok : hdOk h = true) (hm : reelkeeperref04_May.f k h.f0 h.f1 h.f2 h.f3 h.f4 h.f5 h.f6 h.f7 h.f8 h.f9 h.f10 = some true) :
    Calls Try.prog 65 #[.agg (hdCells h).toArray] w fun e w' => ∃ v, e = .returned (.tuple #[v, .bool true]) ∧ Kd.R (Kd.int .u8) 5 w' w.heap.size (fun _ => True) v (refBlk h) ∧ Below w.heap.size w w' := by
  obtain ⟨⟨s0, s2, s1⟩, n3, n4, n5, n6, n7, n9⟩ := hdFits hok
  have hmay : ∀ W, Calls Try.prog 93 #[.agg (hdCells h).toArray] W fun e w' => e = .returned (.bool true) ∧ Below W.heap.size W w' := fun W => reelkeeperref04_May.calls k h.f0 h.f1 h.f2 h.f3 h.f4 h.f5 h.f6 h.f7 h.f8 h.f9 h.f10 true W hm
  have hmk : ∀ W : World, (Instr.makeSlice 50 (.int .i64 512) (.int .i64 512)).run Try.prog W = .ok (.slice (some ⟨W.heap.size, 0, none⟩) 512 512) (W.alloc (.cells (nums .u8 (List.replicate 512 0)).toArray 5)) := by
    intro W
    obtain ⟨i0, hi, hz0, hz1, hz2⟩ := info_parts info5
    have := run_make (P := Try.prog) W 50 5 i0 (.int .u8 0) Try.underlying50 hi hz0 .i64 .i64 512 512 (by decide) (by decide) (by rw [hz2]; decide) (by decide)
    rw [this, hz1]
    show Result.ok _ (W.alloc (.cells (madeCells #[Value.int .u8 0] 512) _)) = _
    rw [made_nums]
    rfl
  obtain ⟨z0, hz0⟩ : ∃ z0, List.replicate 512 (0 : Int) = z0 := ⟨_, rfl⟩
  have hzl : z0.length = 512 := by rw [← hz0, List.length_replicate]
  have hzb : byteOk z0 := by rw [← hz0]; intro c hc; obtain rfl := List.eq_of_mem_replicate hc; decide
  have hblk : refBlk h = refBlk h := rfl
  obtain ⟨rr, hrr⟩ : ∃ rr, refBlk h = rr := ⟨_, rfl⟩
  rw [hrr]
  have HRR := Aside0.mk hrr
  rw [hz0] at hmk
  have HZL := Aside0.mk hzl
  have HZB := Aside0.mk hzb
  have HZ0 := Aside0.mk hz0
  have HH := Aside0.mk hh
  have HMAY := Aside0.mk hmay
  have HS := Aside0.mk (And.intro s0 (And.intro s2 s1))
  have HN := Aside0.mk (And.intro n3 (And.intro n4 (And.intro n5 (And.intro n6 (And.intro n7 n9)))))
  have HBX := Aside0.mk (heap_alloc_new w (.cells (hdCells h).toArray 71))
  have HB0 := Aside0.mk (below_alloc (Below.refl w.heap.size w) (.cells (hdCells h).toArray 71))
  obtain ⟨f0, f1, f2, f3, f4, f5, f6, f7, f8, f9, f10⟩ := h
  have kb0 := fun W => print_bytes (P := Try.prog) 9 50 5 Try.underlying9 Try.underlying50 Try.underlying5 f0 W
  have kb1 := fun W => print_bytes (P := Try.prog) 9 50 5 Try.underlying9 Try.underlying50 Try.underlying5 f1 W
  have kb2 := fun W => print_bytes (P := Try.prog) 9 50 5 Try.underlying9 Try.underlying50 Try.underlying5 f2 W
  simp only [hdCells] at HMAY HBX HB0 ⊢
  clear hh hok hm hmay hblk hrr hz0 hzl hzb s0 s1 s2 n3 n4 n5 n6 n7 n9
  go_enter Try.func65, Try.ntmps65
  go_wp2_with (first | (go_at_call 93; refine (HMAY.out _).mono ?_; rintro e w1 ⟨rfl, hb1⟩))
  have HB1 := Aside0.mk (below_step HB0.out hb1)
  have HX1 := Aside0.mk (blk_below HBX.out hb1)
  have hgs : w.heap.size + 1 ≤ w1.heap.size := by have := hb1.size; simpa using this
  have y0 : w1.cell? ⟨w.heap.size, 0, none⟩ = some (.string f0) := (blk_cell HX1.out 0).trans rfl
  clear hb1
  go_cut [5] (fun v5 wc => ∃ g, v5 = .slice (some ⟨g, 0, none⟩) 512 512 ∧ Aside0 (RowAt w ⟨f0, f1, f2, f3, f4, f5, f6, f7, f8, f9, f10⟩ g (splice z0 (Int.toNat 0) (bytesOf f0)) wc))
  case first =>
    refine wp_region_held_drew (S := fun w' => w'.cell? ⟨w.heap.size, 0, none⟩ = some (.string f0)) (by kernel_rfl) y0 (fun hHeld => ?_)
    refine wpAnyH_take (i := 1) (v := ?_) rfl (by kernel_rfl) (by kernel_rfl) (by kernel_rfl) (fun _ _ _ h => h) (Or.inl ⟨by rfl, ?_⟩) (by assumption) ?_
    rotate_left
    · intro w hSw
      try dsimp only at hSw
      go_simp
      try with_reducible rfl
    try simp only [Act.put, List.setIfInBounds_toArray, List.set_cons_zero, List.set_cons_succ]
    refine wpAnyH_take (i := 2) (v := ?_) rfl (by kernel_rfl) (by kernel_rfl) (by kernel_rfl) (fun _ _ _ h => h) (Or.inl ⟨by rfl, ?_⟩) (by assumption) ?_
    rotate_left
    · intro w hSw
      try dsimp only at hSw
      go_simp
      try with_reducible rfl
    try simp only [Act.put, List.setIfInBounds_toArray, List.set_cons_zero, List.set_cons_succ]
    refine wpAnyH_ready (rs := [0, 3]) (by kernel_rfl) (by simp) ?_
    refine AllReadyH.cons rfl (fun K hK => ?_) (AllReadyH.cons rfl (fun K hK => ?_) AllReadyH.nil)
    · go_simp
      have KA : RowAt w ⟨f0, f1, f2, f3, f4, f5, f6, f7, f8, f9, f10⟩ w1.heap.size z0 ((w1.alloc (.cells (nums .u8 z0).toArray 5)).drew) :=
        ⟨heap_alloc_new w1 _, blk_alloc HX1.out _, below_drew (HB1.out.alloc HB1.out.size _), HZL.out, HZB.out, by omega⟩
      have hlay := KA.layS 0 (by decide) f0 (by have h5 : f0.size ≤ 100 := HS.out.1; show 0 + f0.size ≤ 512; omega)
      have hsz : ((w1.alloc (.cells (nums .u8 z0).toArray 5)).drew).heap.size = w1.heap.size + 1 := by simp
      rw [hsz] at hlay
      have z1 := KA.hd
      have y1 : ((w1.alloc (.cells (nums .u8 z0).toArray 5)).drew).cell? ⟨w.heap.size, 0, none⟩ = some (.string f0) := (blk_cell KA.hd 0).trans rfl
      have y2 := (Lib.bytesWorld_old ((w1.alloc (.cells (nums .u8 z0).toArray 5)).drew) 5 f0 ⟨w.heap.size, 0, none⟩ (by show w.heap.size < _; rw [hsz]; omega)).trans y1
      refine hK.out _ _ y1 (fun hHeld => ?_)
      clear hK K z1
      try simp only [Act.put, List.setIfInBounds_toArray, List.set_cons_zero, List.set_cons_succ]
      refine wpAnyH_ready (rs := [3]) (by kernel_rfl) (by simp) ?_
      refine AllReadyH.cons rfl (fun K hK => ?_) AllReadyH.nil
      go_simp
      refine hK.out _ _ y2 (fun hHeld => ?_)
      clear hK K
      try simp only [Act.put, List.setIfInBounds_toArray, List.set_cons_zero, List.set_cons_succ]
      refine wpAnyH_ready (rs := [4]) (by kernel_rfl) (by simp) ?_
      refine AllReadyH.cons rfl (fun K hK => ?_) AllReadyH.nil
      go_simp
      go_at_call 94
      refine hlay.mono ?_
      rintro e w2 ⟨rfl, hRK⟩
      refine hK.out _ _ ((blk_cell hRK.hd 0).trans rfl) (fun hHeld => ?_)
      clear hK K
      try simp only [Act.put, List.setIfInBounds_toArray, List.set_cons_zero, List.set_cons_succ]
      refine wpAnyH_take (i := 5) (v := ?_) rfl (by kernel_rfl) (by kernel_rfl) (by kernel_rfl) (fun _ _ _ h => h) (Or.inl ⟨by rfl, ?_⟩) (by assumption) ?_
      rotate_left
      · intro w hSw
        try dsimp only at hSw
        go_simp
        try with_reducible rfl
      try simp only [Act.put, List.setIfInBounds_toArray, List.set_cons_zero, List.set_cons_succ]
      refine wpAnyH_done (by kernel_rfl) ?_ _
      simp only [List.getElem_toArray, List.getElem_cons_succ, List.getElem_cons_zero, List.set_cons_zero, List.set_cons_succ]
      have RK := Aside0.mk hRK
      clear hRK hlay KA hsz y1 y2 y0
      go_wp2
      go_meet
      case rel => exact ⟨_, rfl, RK⟩
    · go_simp
      have hbs := Lib.bytesWorld_size w1.drew 5 f0
      have hbs2 : (Lib.bytesWorld w1.drew 5 f0).heap.size = w1.heap.size + 1 := hbs
      have hBB : Below w1.heap.size w1 (Lib.bytesWorld w1.drew 5 f0) := bytes_below (below_drew (Below.refl _ _)) (Nat.le_refl _) 5 f0
      have KA : RowAt w ⟨f0, f1, f2, f3, f4, f5, f6, f7, f8, f9, f10⟩ (Lib.bytesWorld w1.drew 5 f0).heap.size z0 ((Lib.bytesWorld w1.drew 5 f0).alloc (.cells (nums .u8 z0).toArray 5)) :=
        ⟨heap_alloc_new _ _, blk_alloc (blk_below HX1.out hBB) _, (below_step HB1.out hBB).alloc (by rw [hbs2]; omega) _, HZL.out, HZB.out, by rw [hbs2]; omega⟩
      have hlay := KA.lay 0 (by decide) (some ⟨w1.heap.size, 0, none⟩) (grownCap w1.drew f0.size 0 5) (bytesOf f0) (by
        have h5 : f0.size ≤ 100 := HS.out.1
        have := Kd.C_below (bytes_C (W := w1.drew) (s := f0) (by omega)) (below_alloc (Below.refl _ _) (.cells (nums .u8 z0).toArray 5))
        rw [bytesOf_length]
        exact this) (fun ad h => by cases h; simp only; rw [hbs2]; omega) (by have h5 : f0.size ≤ 100 := HS.out.1; rw [bytesOf_length]; show 0 + f0.size ≤ 512; omega) (byteOk_bytesOf f0)
      rw [bytesOf_length] at hlay
      rw [hbs2] at hlay
      have y1 : (Lib.bytesWorld w1.drew 5 f0).cell? ⟨w.heap.size, 0, none⟩ = some (.string f0) := (blk_cell (blk_below HX1.out hBB) 0).trans rfl
      have y2 : ((Lib.bytesWorld w1.drew 5 f0).alloc (.cells (nums .u8 z0).toArray 5)).cell? ⟨w.heap.size, 0, none⟩ = some (.string f0) := (blk_cell KA.hd 0).trans rfl
      refine hK.out _ _ y1 (fun hHeld => ?_)
      clear hK K
      try simp only [Act.put, List.setIfInBounds_toArray, List.set_cons_zero, List.set_cons_succ]
      refine wpAnyH_ready (rs := [0]) (by kernel_rfl) (by simp) ?_
      refine AllReadyH.cons rfl (fun K hK => ?_) AllReadyH.nil
      go_simp
      refine hK.out _ _ y2 (fun hHeld => ?_)
      clear hK K
      try simp only [Act.put, List.setIfInBounds_toArray, List.set_cons_zero, List.set_cons_succ]
      refine wpAnyH_ready (rs := [4]) (by kernel_rfl) (by simp) ?_
      refine AllReadyH.cons rfl (fun K hK => ?_) AllReadyH.nil
      go_simp
      go_at_call 94
      refine hlay.mono ?_
      rintro e w2 ⟨rfl, hRK⟩
      refine hK.out _ _ ((blk_cell hRK.hd 0).trans rfl) (fun hHeld => ?_)
      clear hK K
      try simp only [Act.put, List.setIfInBounds_toArray, List.set_cons_zero, List.set_cons_succ]
      refine wpAnyH_take (i := 5) (v := ?_) rfl (by kernel_rfl) (by kernel_rfl) (by kernel_rfl) (fun _ _ _ h => h) (Or.inl ⟨by rfl, ?_⟩) (by assumption) ?_
      rotate_left
      · intro w hSw
        try dsimp only at hSw
        go_simp
        try with_reducible rfl
      try simp only [Act.put, List.setIfInBounds_toArray, List.set_cons_zero, List.set_cons_succ]
      refine wpAnyH_done (by kernel_rfl) ?_ _
      simp only [List.getElem_toArray, List.getElem_cons_succ, List.getElem_cons_zero, List.set_cons_zero, List.set_cons_succ]
      have RK := Aside0.mk hRK
      clear hRK hlay KA y1 y2 y0 hbs hBB
      go_wp2
      go_meet
      case rel => exact ⟨_, rfl, RK⟩
  case rest =>
    obtain ⟨g, rfl, RK⟩ := hcut
    have x3 := (blk_cell RK.out.hd 3).trans (show _ = some (.int .i64 f3) from rfl)
    have c3 := RK.out.number 100 8 f3 (by decide) HH.out.2.1 (by rw [HN.out.1]; decide)
    go_wp2_with (fail)
    refine c3.mono ?_
    rintro e w3 ⟨rfl, hk⟩
    have R3 := Aside0.mk hk
    clear hk c3 x3 RK
    have x4 := (blk_cell R3.out.hd 4).trans (show _ = some (.int .i64 f4) from rfl)
    have c4 := R3.out.number 108 8 f4 (by decide) HH.out.2.2.1 (by rw [HN.out.2.1]; decide)
    go_wp2_with (fail)
    refine c4.mono ?_
    rintro e w4 ⟨rfl, hk⟩
    have R4 := Aside0.mk hk
    clear hk c4 x4 R3
    have x5 := (blk_cell R4.out.hd 5).trans (show _ = some (.int .i64 f5) from rfl)
    have c5 := R4.out.number 116 8 f5 (by decide) HH.out.2.2.2.1 (by rw [HN.out.2.2.1]; decide)
    go_wp2_with (fail)
    refine c5.mono ?_
    rintro e w5 ⟨rfl, hk⟩
    have R5 := Aside0.mk hk
    clear hk c5 x5 R4
    have x6 := (blk_cell R5.out.hd 6).trans (show _ = some (.int .i64 f6) from rfl)
    have c6 := R5.out.number 124 12 f6 (by decide) HH.out.2.2.2.2.1 (by rw [HN.out.2.2.2.1]; decide)
    go_wp2_with (fail)
    refine c6.mono ?_
    rintro e w6 ⟨rfl, hk⟩
    have R6 := Aside0.mk hk
    clear hk c6 x6 R5
    have x7 := (blk_cell R6.out.hd 7).trans (show _ = some (.int .i64 f7) from rfl)
    have c7 := R6.out.number 136 12 f7 (by decide) HH.out.2.2.2.2.2.1 (by rw [HN.out.2.2.2.2.1]; decide)
    go_wp2_with (fail)
    refine c7.mono ?_
    rintro e w7 ⟨rfl, hk⟩
    have R7 := Aside0.mk hk
    clear hk c7 x7 R6
    have x8 := (blk_cell R7.out.hd 8).trans (show _ = some (.int .u8 f8) from rfl)
    obtain ⟨u, xg, xf⟩ := R7.out.cell156
    have R8 := Aside0.mk (R7.out.set156 f8 HH.out.1)
    clear R7
    go_upto_region 11 with (fail)
    obtain ⟨W8, hW8⟩ : ∃ W, W = w7.setCell ⟨g, 156, none⟩ (.int .u8 f8) := ⟨_, rfl⟩
    rw [← hW8] at R8 ⊢
    clear hW8 xg xf x8
    have x2 := (blk_cell R8.out.hd 2).trans (show _ = some (.string f2) from rfl)
    have c8 := R8.out.layS 157 (by decide) f2 (by have h5 : f2.size ≤ 100 := HS.out.2.1; show 157 + f2.size ≤ 512; omega)
    go_wp2_with (fail)
    refine c8.mono ?_
    rintro e w9 ⟨rfl, hk⟩
    have R9 := Aside0.mk hk
    clear hk c8 x2 R8
    have c9 := R9.out.layB 257 (by decide) [117, 115, 116, 97, 114, 0, 48, 48] (by decide) (by intro c hc; simp at hc; omega)
    go_wp2_with (fail)
    refine c9.mono ?_
    rintro e w10 ⟨rfl, hk⟩
    have R10 := Aside0.mk hk
    clear hk c9 R9
    have x8 := (blk_cell R10.out.hd 8).trans (show _ = some (.int .u8 f8) from rfl)
    by_cases c77 : f8 = 77
    · subst c77
      have c77 : (77 : Int) = 77 := rfl
      have c77b : decide ((77 : Int) = 77) = true := decide_eq_true c77
      have x9 := (blk_cell R10.out.hd 9).trans (show _ = some (.int .i64 f9) from rfl)
      have e9 := HN.out.2.2.2.2.2 c77
      have c9 := R10.out.number 369 12 f9 (by decide) HH.out.2.2.2.2.2.2.1 (by rw [e9.1]; decide)
      go_wp2_with (fail)
      refine c9.mono ?_
      rintro e w11 ⟨rfl, hk⟩
      have R11 := Aside0.mk hk
      clear hk c9 x9 x8 R10
      have x10 := (blk_cell R11.out.hd 10).trans (show _ = some (.int .i64 f10) from rfl)
      have c10 := R11.out.number 483 12 f10 (by decide) HH.out.2.2.2.2.2.2.2 (by rw [e9.2]; decide)
      go_wp2_with (fail)
      refine c10.mono ?_
      rintro e w12 ⟨rfl, hk⟩
      have R12 := Aside0.mk hk
      clear hk c10 x10 R11
      go_upto_region 17 with (fail)
      have cs := R12.out.sum
      go_wp2_with (fail)
      refine cs.mono ?_
      rintro e wa ⟨rfl, hk⟩
      have RA := Aside0.mk hk
      clear hk cs
      have cg := RA.out.sign
      go_wp2_with (fail)
      refine cg.mono ?_
      rintro e wb ⟨AS, cS, rfl, hk, hlast⟩
      have RB := Aside0.mk hk
      clear hk cg
      go_wp2_with (fail)
      refine hlast.mono ?_
      rintro e wd ⟨rfl, hk⟩
      have RD := Aside0.mk hk
      clear hk hlast
      go_wp2
      go_ret2
      refine ⟨_, rfl, ?_, RD.out.bel⟩
      have hfin := HRR.out
      unfold refBlk rb3 rb2 rb1 rb0 at hfin
      simp only at hfin
      rw [HZ0.out, if_pos trivial] at hfin
      have hR := R_of_block (base := w.heap.size) RD.out.row (by have := RD.out.gt; omega) (by rw [RD.out.len]; decide)
      rw [RD.out.len] at hR
      rw [← hfin]
      exact hR
    · have c77b : decide (f8 = 77) = false := decide_eq_false c77
      have x1 := (blk_cell R10.out.hd 1).trans (show _ = some (.string f1) from rfl)
      have cw := R10.out.layS 345 (by decide) f1 (by have h5 : f1.size ≤ 155 := HS.out.2.2 c77; show 345 + f1.size ≤ 512; omega)
      go_wp2_with (fail)
      refine cw.mono ?_
      rintro e w11 ⟨rfl, hk⟩
      have R11 := Aside0.mk hk
      clear hk cw x1 x8 R10
      go_upto_region 17 with (fail)
      have cs := R11.out.sum
      go_wp2_with (fail)
      refine cs.mono ?_
      rintro e wa ⟨rfl, hk⟩
      have RA := Aside0.mk hk
      clear hk cs
      have cg := RA.out.sign
      go_wp2_with (fail)
      refine cg.mono ?_
      rintro e wb ⟨AS, cS, rfl, hk, hlast⟩
      have RB := Aside0.mk hk
      clear hk cg
      go_wp2_with (fail)
      refine hlast.mono ?_
      rintro e wd ⟨rfl, hk⟩
      have RD := Aside0.mk hk
      clear hk hlast
      go_wp2
      go_ret2
      refine ⟨_, rfl, ?_, RD.out.bel⟩
      have hfin := HRR.out
      unfold refBlk rb3 rb2 rb1 rb0 at hfin
      simp only at hfin
      rw [HZ0.out, if_neg c77] at hfin
      have hR := R_of_block (base := w.heap.size) RD.out.row (by have := RD.out.gt; omega) (by rw [RD.out.len]; decide)
      rw [RD.out.len] at hR
      rw [← hfin]
      exact hR
theorem reelkeeperref04_Put.no (k : Nat) (h : Hd) (w : World) (hm : reelkeeperref04_May.f k h.f0 h.f1 h.f2 h.f3 h.f4 h.f5 h.f6 h.f7 h.f8 h.f9 h.f10 = some false) :
    Calls Try.prog 65 #[.agg (hdCells h).toArray] w fun e w' => e = .returned (.tuple #[.slice none 0 0, .bool false]) ∧ Below w.heap.size w w' := by
  have hmay : ∀ W, Calls Try.prog 93 #[.agg (hdCells h).toArray] W fun e w' => e = .returned (.bool false) ∧ Below W.heap.size W w' := fun W => reelkeeperref04_May.calls k h.f0 h.f1 h.f2 h.f3 h.f4 h.f5 h.f6 h.f7 h.f8 h.f9 h.f10 false W hm
  have HMAY := Aside0.mk hmay
  have HB0 := Aside0.mk (below_alloc (Below.refl w.heap.size w) (.cells (hdCells h).toArray 71))
  obtain ⟨f0, f1, f2, f3, f4, f5, f6, f7, f8, f9, f10⟩ := h
  simp only [hdCells] at HMAY HB0 ⊢
  clear hmay hm
  go_enter Try.func65, Try.ntmps65
  go_wp2_with (first | (go_at_call 93; refine (HMAY.out _).mono ?_; rintro e w1 ⟨rfl, hb1⟩))
  go_ret2
  exact ⟨rfl, below_step HB0.out hb1⟩
def reelkeeperref04_Put.f (k : Nat) (a0 a1 a2 : ByteArray) (a3 a4 a5 a6 a7 a8 a9 a10 : Int) : Option (List Int × Bool) :=
  if hdIn ⟨a0, a1, a2, a3, a4, a5, a6, a7, a8, a9, a10⟩ then (reelkeeperref04_May.f k a0 a1 a2 a3 a4 a5 a6 a7 a8 a9 a10).bind fun m => if m = true then (if hdOk ⟨a0, a1, a2, a3, a4, a5, a6, a7, a8, a9, a10⟩ = true then some (refBlk ⟨a0, a1, a2, a3, a4, a5, a6, a7, a8, a9, a10⟩, true) else none) else some ([], false) else none
theorem reelkeeperref04_Put.mono : ∀ a0 a1 a2 a3 a4 a5 a6 a7 a8 a9 a10 k, LeO (reelkeeperref04_Put.f k a0 a1 a2 a3 a4 a5 a6 a7 a8 a9 a10) (reelkeeperref04_Put.f (k + 1) a0 a1 a2 a3 a4 a5 a6 a7 a8 a9 a10) := by
  intro a0 a1 a2 a3 a4 a5 a6 a7 a8 a9 a10 k
  unfold reelkeeperref04_Put.f
  exact LeO.ite (LeO.bind (reelkeeperref04_May.mono _ _ _ _ _ _ _ _ _ _ _ _) (fun _ => LeO.refl _)) (LeO.refl _)
theorem reelkeeperref04_Put.calls (k : Nat) (a0_0 a0_1 a0_2 : ByteArray) (a0_3 a0_4 a0_5 a0_6 a0_7 a0_8 a0_9 a0_10 : Int) (r1 : List Int) (r2 : Bool) (w : World) (h : reelkeeperref04_Put.f k a0_0 a0_1 a0_2 a0_3 a0_4 a0_5 a0_6 a0_7 a0_8 a0_9 a0_10 = some (r1, r2)) :
    Calls Try.prog 65 #[.agg #[.string a0_0, .string a0_1, .string a0_2, .int .i64 a0_3, .int .i64 a0_4, .int .i64 a0_5, .int .i64 a0_6, .int .i64 a0_7, .int .u8 a0_8, .int .i64 a0_9, .int .i64 a0_10]] w fun e w' => ∃ v0_ : Value, e = .returned (.tuple #[v0_, .bool r2]) ∧ Kd.R (Kd.int .u8) 5 w' w.heap.size (fun _ => True) v0_ r1 ∧ Below w.heap.size w w' := by
  unfold reelkeeperref04_Put.f at h
  by_cases hh : hdIn ⟨a0_0, a0_1, a0_2, a0_3, a0_4, a0_5, a0_6, a0_7, a0_8, a0_9, a0_10⟩
  · rw [if_pos hh] at h
    obtain ⟨m, hm, h⟩ := Option.bind_eq_some_iff.1 h
    cases m with
    | false =>
      rw [if_neg (by decide)] at h
      obtain ⟨rfl, rfl⟩ := Prod.mk.inj (Option.some.inj h)
      refine (reelkeeperref04_Put.no k ⟨a0_0, a0_1, a0_2, a0_3, a0_4, a0_5, a0_6, a0_7, a0_8, a0_9, a0_10⟩ w hm).mono ?_
      rintro e w' ⟨rfl, hb⟩
      exact ⟨_, rfl, Kd.R_nil _ _ _ _ _, hb⟩
    | true =>
      rw [if_pos rfl] at h
      by_cases hok : hdOk ⟨a0_0, a0_1, a0_2, a0_3, a0_4, a0_5, a0_6, a0_7, a0_8, a0_9, a0_10⟩ = true
      · rw [if_pos hok] at h
        obtain ⟨rfl, rfl⟩ := Prod.mk.inj (Option.some.inj h)
        exact reelkeeperref04_Put.ok k _ w hh hok hm
      · rw [if_neg hok] at h
        cases h
  · rw [if_neg hh] at h
    cases h

end Go.Proofs.Ytddjnicmpgbcgaa.X
