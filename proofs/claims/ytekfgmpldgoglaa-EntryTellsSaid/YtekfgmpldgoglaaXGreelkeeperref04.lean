import Derived.Test.YtekfgmpldgoglaaXK
import Derived.Test.YtekfgmpldgoglaaXGhead
import Derived.Test.YtekfgmpldgoglaaXGnum
import Derived.Test.YtekfgmpldgoglaaXGreelkeeperref01
import Derived.Test.YtekfgmpldgoglaaYAll
import Derived.BigQuiet
import Derived.Deep.DeepCutAuto
import Derived.Deep.QuietTactic
import Derived.Deep.RegionHeld3
import Derived.Laws.EntriesVeiled
import Derived.WalkSpells
namespace Go.Proofs.Ytekfgmpldgoglaa.X
open Go.RowKit Go.Proofs.YtekfgmpldgoglaaW.PrintWords Go.Proofs.YtekfgmpldgoglaaW.PrintLast Go.Proofs.YtekfgmpldgoglaaW.PrintMore
attribute [local go_sem] max2_int min2_int max_two min_two
set_option linter.unusedVariables false
set_option linter.unusedSimpArgs false

open Go.Proofs.YtekfgmpldgoglaaY
theorem splice_set (l x : List Int) (p i : Nat) (hi : i < x.length) (hf : p + x.length ≤ l.length) : (splice l p (x.take i)).set (p + i) x[i] = splice l p (x.take (i + 1)) := by
  unfold splice
  have h1 : (x.take i).length = i := by rw [List.length_take]; omega
  have h2 : (x.take (i + 1)).length = i + 1 := by rw [List.length_take]; omega
  have h3 : (l.take p).length = p := by rw [List.length_take]; omega
  rw [h1, h2, List.set_append_right _ _ (by omega), h3, Nat.add_sub_cancel_left, List.set_append_right _ _ (by omega), h1, Nat.sub_self, List.take_succ_eq_append_getElem hi]
  have hd : l.drop (p + i) = l[p + i] :: l.drop (p + (i + 1)) := by rw [List.drop_eq_getElem_cons (by omega)]; rfl
  rw [hd, List.set_cons_zero, List.append_assoc]
  rfl
theorem nums_set (l : List Int) (i : Nat) (x : Int) : (nums .u8 l).toArray.setIfInBounds i (.int .u8 x) = (nums .u8 (l.set i x)).toArray := by
  unfold nums
  rw [List.setIfInBounds_toArray, List.map_set]
set_option maxHeartbeats 1600000 in
set_option maxRecDepth 100000 in
theorem ref04_lay.at_ (g : Nat) (l : List Int) (at_ : Nat) (A : Option Addr) (c : Nat) (x : List Int) (w : World) (hg : w.heap[g]? = some (.cells (nums .u8 l).toArray 5 (0, 0))) (hl : l.length = 512) (hfit : at_ + x.length ≤ 512)
    (hC : ∀ W', Turn (fun k => k = g) w W' → Kd.C (Kd.int .u8) W' A x.length x) :
    Calls Try.prog 68 #[.slice (some ⟨g, 0, none⟩) 512 512, .int .i64 at_, .slice A x.length c] w fun e w' => e = .returned (.slice (some ⟨g, 0, none⟩) 512 512) ∧ w'.heap[g]? = some (.cells (nums .u8 (splice l at_ x)).toArray 5 (0, 0)) ∧ Turn (fun k => k = g) w w' := by
  have HG := Aside0.mk hg
  have HC := Aside0.mk hC
  have HL := Aside0.mk hl
  clear hg hC hl
  go_enter Try.func68, Try.ntmps68
  go_wp2
  go_loopw [7] (fun v7 wr => ∃ i : Nat, v7 = .int .i64 i ∧ i ≤ x.length ∧ Aside0 (wr.heap[g]? = some (.cells (nums .u8 (splice l at_ (x.take i))).toArray 5 (0, 0))) ∧ Aside0 (Turn (fun k => k = g) w wr)) (fun v7 _ => x.length - (intOf v7).toNat)
  case atStart => exact ⟨0, rfl, Nat.zero_le _, ⟨by simpa [splice] using HG.out⟩, ⟨Turn.refl _ _⟩⟩
  case round =>
    obtain ⟨i, rfl, hi, HR, HT⟩ := hrel
    by_cases hlt : i < x.length
    · obtain ⟨ad, rfl, hx⟩ := Kd.at_int (HC.out _ HT.out) (i : Int) (by omega) (by omega)
      have hrd : rd x (i : Int) = x[i] := by unfold rd; simp [List.getD_eq_getElem?_getD, List.getElem?_eq_getElem hlt]
      rw [hrd] at hx
      simp only [Int.toNat_natCast] at hx
      have hst := splice_set l x at_ i hlt (by rw [HL.out]; exact hfit)
      have hlen : (splice l at_ (x.take i)).length = 512 := by rw [length_splice _ _ _ (by rw [HL.out, List.length_take]; omega)]; exact HL.out
      obtain ⟨cur, hcur⟩ : ∃ cur, splice l at_ (x.take i) = cur := ⟨_, rfl⟩
      rw [hcur] at HR hst hlen
      obtain ⟨xi, hxi⟩ : ∃ xi, x[i] = xi := ⟨_, rfl⟩
      rw [hxi] at hx hst
      have hc0 : wr.cell? ⟨g, at_ + i, none⟩ = some (.int .u8 (cur.getD (at_ + i) 0)) := by
        rw [blk_cell HR.out, List.getElem?_toArray]
        unfold nums
        rw [List.getElem?_map, List.getElem?_eq_getElem (by omega)]
        simp [List.getD_eq_getElem?_getD, List.getElem?_eq_getElem (show at_ + i < cur.length by omega)]
      have hf0 := blk_frozen HR.out (at_ + i)
      have HST := Aside0.mk hst
      have hb1 : (at_ : Int) + (i : Int) < 512 := by omega
      have hb2 : (0 : Int) ≤ (at_ : Int) + (i : Int) := by omega
      have hb3 : (at_ + i : Nat) < 512 := by omega
      have hlt2 : (i : Int) < (x.length : Int) := by omega
      have hb4 : ((at_ : Int) + (i : Int)).toNat = at_ + i := by omega
      clear hst hlen hcur hxi hrd
      go_wp2
      go_roundw
      case rel =>
        refine ⟨i + 1, by go_num, by omega, ⟨?_⟩, ⟨HT.out.trans (Turn.setCell _ _ rfl)⟩⟩
        rw [← HST.out, ← nums_set]
        exact blk_set HR.out (at_ + i) _
      case measure => simp [intOf]; omega
    · obtain rfl : i = x.length := by omega
      have h1 := HR.out
      rw [List.take_length] at h1
      have H1 := Aside0.mk h1
      clear h1
      go_wp2
      go_ret
      exact ⟨rfl, H1.out, HT.out⟩

/-- Where the reference lays a block: the row, the header. -/
structure RowAt (w : World) (h : Hd) (g : Nat) (l : List Int) (W : World) : Prop where
  row : W.heap[g]? = some (.cells (nums .u8 l).toArray 5 (0, 0))
  hd : W.heap[w.heap.size]? = some (.cells (hdCells h).toArray 37 (0, 0))
  bel : Below w.heap.size w W
  len : l.length = 512
  byte : byteOk l
  gt : w.heap.size < g
theorem RowAt.below {w : World} {h : Hd} {g : Nat} {l : List Int} {W W' : World} (k : RowAt w h g l W) (hb : Below W.heap.size W W') : RowAt w h g l W' :=
  ⟨blk_below k.row hb, blk_below k.hd hb, below_step k.bel hb, k.len, k.byte, k.gt⟩
theorem RowAt.turn {w : World} {h : Hd} {g : Nat} {l l' : List Int} {W W' : World} (k : RowAt w h g l W) (ht : Turn (fun k => k = g) W W') (hrow : W'.heap[g]? = some (.cells (nums .u8 l').toArray 5 (0, 0))) (hl : l'.length = 512) (hby : byteOk l') : RowAt w h g l' W' :=
  have hgt := k.gt
  ⟨hrow, (ht.block _ (blk_lt k.hd) (by omega)).trans k.hd, k.bel.trans (ht.below (fun k hk => by omega) k.bel.size), hl, hby, hgt⟩
theorem RowAt.lay {w : World} {h : Hd} {g : Nat} {l : List Int} {W : World} (k : RowAt w h g l W) (at_ : Int) (h0 : 0 ≤ at_) (A : Option Addr) (c : Nat) (x : List Int) (hC : Kd.C (Kd.int .u8) W A x.length x) (hA : ∀ ad, A = some ad → ad.block ≠ g) (hfit : at_.toNat + x.length ≤ 512) (hx : byteOk x) :
    Calls Try.prog 68 #[.slice (some ⟨g, 0, none⟩) 512 512, .int .i64 at_, .slice A x.length c] W fun e w' => e = .returned (.slice (some ⟨g, 0, none⟩) 512 512) ∧ RowAt w h g (splice l at_.toNat x) w' := by
  obtain ⟨n, rfl⟩ := Int.eq_ofNat_of_zero_le h0
  refine (ref04_lay.at_ g l n A c x W k.row k.len hfit (fun W' ht => C_turn hC ht hA)).mono ?_
  rintro e w' ⟨rfl, hr, ht⟩
  exact ⟨rfl, k.turn ht hr (by rw [Int.toNat_natCast, length_splice _ _ _ (by rw [k.len]; exact hfit)]; exact k.len) (byteOk_splice k.byte hx)⟩
set_option maxHeartbeats 1600000 in
set_option maxRecDepth 100000 in
theorem RowAt.number {w : World} {h : Hd} {g : Nat} {l : List Int} {W : World} (k : RowAt w h g l W) (at_ wide n : Int) (h0 : 0 ≤ at_) (h9 : n ≤ 9223372036854775807) (hfit : at_.toNat + (putN n wide).1.length ≤ 512) :
    Calls Try.prog 69 #[.slice (some ⟨g, 0, none⟩) 512 512, .int .i64 at_, .int .i64 wide, .int .i64 n] W fun e w' => e = .returned (.slice (some ⟨g, 0, none⟩) 512 512) ∧ RowAt w h g (splice l at_.toNat (putN n wide).1) w' := by
  have hby := byteOk_putN n wide
  obtain ⟨pl, pb, hp⟩ : ∃ l b, putN n wide = (l, b) := ⟨_, _, rfl⟩
  rw [hp] at hfit hby ⊢
  simp only at hfit hby ⊢
  have hput := fun W => ref01_Put.at_ n wide pl pb W h9 ⟨hp⟩
  have KK := Aside0.mk k
  have HBY := Aside0.mk hby
  have HFIT := Aside0.mk hfit
  clear hp k hby hfit
  go_enter Try.func69, Try.ntmps69
  go_wp2_with (first | (go_at_call 104; refine (hput _).mono ?_; rintro e w1 ⟨A, c, rfl, hc, hC, hb, hA⟩; have hlay := (KK.out.below hb).lay at_ h0 A c pl hC (fun ad h => by have h5 := hA ad h; have h6 := blk_lt KK.out.row; omega) HFIT.out HBY.out; clear hc hC hb hA) | (go_at_call 68; refine hlay.mono ?_; rintro e w2 ⟨rfl, hk2⟩))
  go_ret
  exact ⟨rfl, hk2⟩
set_option maxHeartbeats 1600000 in
set_option maxRecDepth 100000 in
theorem ref04_sign.at_ (n : Nat) (hn2 : n ≤ 130560) (w : World) :
    Calls Try.prog 70 #[.int .i64 n] w fun e w' => ∃ A c, e = .returned (.slice A (signL n).length c) ∧ (signL n).length ≤ c ∧ Kd.C (Kd.int .u8) w' A (signL n).length (signL n) ∧ Below w.heap.size w w' ∧ (∀ ad, A = some ad → w.heap.size ≤ ad.block) := by
  have hz : n / 8 ^ 6 = 0 := Nat.div_eq_of_lt (by omega)
  obtain ⟨kk, hkk⟩ := (ref_octal n 6 (by omega) (by omega)).rounds
  rw [if_pos hz] at hkk
  have hoct : ∀ W, Calls Try.prog 105 #[.int .i64 n, .int .i64 6] W fun e w' => e = .returned (.tuple #[.string (strOfNums (octL n 6)), .bool true]) ∧ Below W.heap.size W w' := fun W => (reelkeeperref01_Octal.calls kk (n : Int) 6 (strOfNums (octL n 6)) true W hkk).mono (fun _ _ h => ⟨h.1, h.2.below⟩)
  obtain ⟨txt, htxt⟩ : ∃ s, strOfNums (octL n 6) = s := ⟨_, rfl⟩
  rw [htxt] at hoct
  have hbo : bytesOf txt = octL n 6 := by rw [← htxt]; exact bytes_of_nums _ (octL_range 6 n)
  have hsz : txt.size = 6 := by rw [← htxt, strOfNums_size, octL_length]
  have HBO := Aside0.mk hbo
  have HSZ := Aside0.mk hsz
  have kb := fun W => print_bytes (P := Try.prog) 9 41 5 Try.underlying9 Try.underlying41 Try.underlying5 txt W
  have hsg : signL (n : Int) = octL n 6 ++ [0, 32] := rfl
  rw [hsg]
  clear htxt hbo hsz hz hsg hkk
  go_enter Try.func70, Try.ntmps70
  go_wp2_with (first | (go_at_call 105; refine (hoct _).mono ?_; rintro e w1 ⟨rfl, hb1⟩) | (at_builtin; refine wpList_append_bytes w1 rfl (.tmp 11) (.tmp 12) 41 5 rfl Try.underlying41 info5 txt [0, 32] (by decide) rfl rfl (by have := HSZ.out; simp; omega) ?_; intro g c w2 hg hc hC hb2))
  go_ret
  have e : (octL n 6 ++ [0, 32]).length = txt.size + 2 := by rw [List.length_append, octL_length, HSZ.out]; rfl
  rw [HBO.out] at hC hc
  rw [← e]
  refine ⟨_, c, rfl, hc, hC, below_then hb1 hb1.size hb2, fun ad h => by cases h; exact Nat.le_trans hb1.size hg⟩

end Go.Proofs.Ytekfgmpldgoglaa.X
namespace Go.Proofs.Ytekfgmpldgoglaa.X
open Go.RowKit Go.Proofs.YtekfgmpldgoglaaW.PrintWords Go.Proofs.YtekfgmpldgoglaaW.PrintLast Go.Proofs.YtekfgmpldgoglaaW.PrintMore
attribute [local go_sem] max2_int min2_int max_two min_two
set_option linter.unusedVariables false
set_option linter.unusedSimpArgs false

/-! ### reelkeeperref04_word: function 102 -/
def reelkeeperref04_word.l0 : Nat → ByteArray → Int → Int → Option (Bool)
  | 0, _, _, _ => none
  | k + 1, x0, x1, x5 => if x5 < (x0.size : Int) then (if 0 ≤ x5 then (if (bt x0 x5) = 0 then (some false) else (reelkeeperref04_word.l0 k x0 x1 (wrap64 (x5 + 1)))) else (none)) else (some (decide ((x0.size : Int) ≤ x1)))
def reelkeeperref04_word.f (k : Nat) (a0 : ByteArray) (a1 : Int) : Option (Bool) := reelkeeperref04_word.l0 k a0 a1 0
theorem reelkeeperref04_word.mono_l : ∀ k, (∀ y0 y1 y2, LeO (reelkeeperref04_word.l0 k y0 y1 y2) (reelkeeperref04_word.l0 (k + 1) y0 y1 y2))
  | 0 => fun _ _ _ r h => by simp [reelkeeperref04_word.l0] at h
  | k + 1 => by
    have ih0 := reelkeeperref04_word.mono_l k
    · intro y0 y1 y2
      unfold reelkeeperref04_word.l0
      repeat' first
      | (with_reducible exact ih0 _ _ _)
      | (with_reducible exact LeO.refl _)
      | (with_reducible exact LeO.none _)
      | (with_reducible refine LeO.ite ?_ ?_)
      | (with_reducible refine LeO.bind ?_ (fun _ => ?_))
      | exact ih0 _ _ _
      | exact LeO.none _
      | refine LeO.ite ?_ ?_
      | refine LeO.bind ?_ (fun _ => ?_)
theorem reelkeeperref04_word.mono : ∀ a0 a1 k, LeO (reelkeeperref04_word.f k a0 a1) (reelkeeperref04_word.f (k + 1) a0 a1) := by
  intro a0 a1 k
  have ih0 := reelkeeperref04_word.mono_l k
  unfold reelkeeperref04_word.f
  repeat' first
      | (with_reducible exact ih0 _ _ _)
      | (with_reducible exact LeO.refl _)
      | (with_reducible exact LeO.none _)
      | (with_reducible refine LeO.ite ?_ ?_)
      | (with_reducible refine LeO.bind ?_ (fun _ => ?_))
      | exact ih0 _ _ _
      | exact LeO.none _
      | refine LeO.ite ?_ ?_
      | refine LeO.bind ?_ (fun _ => ?_)
set_option maxHeartbeats 8000000 in
set_option maxRecDepth 100000 in
theorem reelkeeperref04_word.calls (k : Nat) (a0 : ByteArray) (a1 : Int) (r : Bool) (w : World) (h : reelkeeperref04_word.f k a0 a1 = some r) :
    Calls Try.prog 102 #[.string a0, .int .i64 a1] w fun e w' => e = .returned (.bool r) ∧ Drawn0 w w' := by
  have H : (reelkeeperref04_word.l0 k a0 a1 0) = some r := h
  clear h
  have H' := Aside0.mk H
  clear H
  go_enter Try.func102, Try.ntmps102
  go_wp2
  go_loopg [5] k (fun kq v5 w' => ∃ (x5_1 : Int), v5 = .int .i64 x5_1 ∧ Aside0 (reelkeeperref04_word.l0 kq a0 a1 x5_1 = some r) ∧ Aside0 (kq ≤ k) ∧ Drawn0 w w')
  case atStart => exact ⟨(0), (by first | rfl | (simp; done) | (simp [*]; done)), H', ⟨Nat.le_refl _⟩, by repeat (first | exact Drawn0.refl _ | apply Drawn0.step)⟩
  case round =>
    clear H'
    try clear c1
    try clear p2
    obtain ⟨x5_1, rfl, HA, HK1, ⟨m1, rfl⟩⟩ := hrel
    cases gk with
    | zero => exact absurd HA.out (by simp [reelkeeperref04_word.l0])
    | succ k1 =>
      have H := HA.out
      clear HA
      simp only [reelkeeperref04_word.l0] at H
      by_cases c3 : x5_1 < (a0.size : Int)
      · rw [if_pos c3] at H
        have c3b0 : decide (x5_1 < (a0.size : Int)) = true := decide_eq_true c3
        clear c3
        by_cases c4 : 0 ≤ x5_1
        · rw [if_pos c4] at H
          have c4b0 : decide (0 ≤ x5_1) = true := decide_eq_true c4
          clear c4
          by_cases c6 : (bt a0 x5_1) = 0
          · rw [if_pos c6] at H
            have c6b0 : ((bt a0 x5_1) == 0) = true := beq_iff_eq.mpr c6
            have c6b1 : ((bt a0 x5_1) != 0) = false := bne_eq_false_iff_eq.mpr c6
            clear c6
            obtain rfl := Option.some.inj H
            have p5 : 0 ≤ (x5_1 : Int) := of_decide_eq_true (by first | (with_reducible assumption) | assumption)
            have q5 : x5_1 < (a0.size : Int) := of_decide_eq_true (by first | (with_reducible assumption) | assumption)
            have hx5 := bt_at a0 x5_1
            replace p5 := eq_true p5
            replace q5 := eq_true q5
            go_wp2
            go_ret
            exact ⟨by first | rfl | (simp; done) | (simp [*]; done), by repeat (first | exact Drawn0.refl _ | apply Drawn0.step)⟩
          · rw [if_neg c6] at H
            have c6b0 : ((bt a0 x5_1) == 0) = false := beq_eq_false_iff_ne.mpr c6
            have c6b1 : ((bt a0 x5_1) != 0) = true := bne_iff_ne.mpr c6
            have H' := Aside0.mk H
            clear H
            have p5 : 0 ≤ (x5_1 : Int) := of_decide_eq_true (by first | (with_reducible assumption) | assumption)
            have q5 : x5_1 < (a0.size : Int) := of_decide_eq_true (by first | (with_reducible assumption) | assumption)
            have hx5 := bt_at a0 x5_1
            replace p5 := eq_true p5
            replace q5 := eq_true q5
            go_wp2
            go_roundg k1
            case measure => have := HK1.out; omega
            case rel => exact ⟨(wrap64 (x5_1 + 1)), (by first | rfl | (simp; done) | (simp [*]; done)), H', ⟨by have := HK1.out; omega⟩, by repeat (first | exact Drawn0.refl _ | apply Drawn0.step)⟩
        · rw [if_neg c4] at H
          exact absurd H (by simp)
      · rw [if_neg c3] at H
        have c3b0 : decide (x5_1 < (a0.size : Int)) = false := decide_eq_false c3
        clear c3
        obtain rfl := Option.some.inj H
        go_wp2
        go_ret
        exact ⟨by first | rfl | (simp; done) | (simp [*]; done), by repeat (first | exact Drawn0.refl _ | apply Drawn0.step)⟩

end Go.Proofs.Ytekfgmpldgoglaa.X
namespace Go.Proofs.Ytekfgmpldgoglaa.X
open Go.RowKit Go.Proofs.YtekfgmpldgoglaaW.PrintWords Go.Proofs.YtekfgmpldgoglaaW.PrintLast Go.Proofs.YtekfgmpldgoglaaW.PrintMore
attribute [local go_sem] max2_int min2_int max_two min_two
set_option linter.unusedVariables false
set_option linter.unusedSimpArgs false

def reelkeeperref04_fits.f (a0 a1 : Int) : Option Bool := if a0 ≤ 9223372036854775807 then some (putN a0 a1).2 else none
set_option maxHeartbeats 1600000 in
theorem reelkeeperref04_fits.calls (a0 a1 : Int) (r : Bool) (w : World) (h : reelkeeperref04_fits.f a0 a1 = some r) :
    Calls Try.prog 103 #[.int .i64 a0, .int .i64 a1] w fun e w' => e = .returned (.bool r) ∧ Below w.heap.size w w' := by
  unfold reelkeeperref04_fits.f at h
  by_cases h9 : a0 ≤ 9223372036854775807
  · rw [if_pos h9] at h
    have hr := Option.some.inj h
    obtain ⟨l, b, hp⟩ : ∃ l b, putN a0 a1 = (l, b) := ⟨_, _, rfl⟩
    rw [hp] at hr
    have hput := fun W => ref01_Put.at_ a0 a1 l b W h9 ⟨hp⟩
    simp only at hr
    subst hr
    clear h hp
    go_enter Try.func103, Try.ntmps103
    go_wp2_with (first | (go_at_call 104; refine (hput _).mono ?_; rintro e w1 ⟨A, c, rfl, _, _, hb, _⟩))
    go_ret
    exact ⟨rfl, hb⟩
  · rw [if_neg h9] at h
    cases h

end Go.Proofs.Ytekfgmpldgoglaa.X
namespace Go.Proofs.Ytekfgmpldgoglaa.X
open Go.RowKit Go.Proofs.YtekfgmpldgoglaaW.PrintWords Go.Proofs.YtekfgmpldgoglaaW.PrintLast Go.Proofs.YtekfgmpldgoglaaW.PrintMore
attribute [local go_sem] max2_int min2_int max_two min_two
set_option linter.unusedVariables false
set_option linter.unusedSimpArgs false

set_option maxRecDepth 100000
/-- What a header has by its type, as the reference says. -/
def mayT (o x : Bool) (a1 : ByteArray) (a8 a9 a10 : Int) : Bool :=
  if a8 = 77 then a1.toList.isEmpty && (o && x) else (a8 == 48 || (a8 == 49 || (a8 == 50 || (a8 == 53 || (a8 == 75 || (a8 == 76 || a8 == 86)))))) && (a9 == 0 && a10 == 0)
def mayR (n l p m u g s t o x : Bool) (a0 a1 : ByteArray) (a8 a9 a10 : Int) : Bool := n && (l && (p && (m && (u && (g && (s && (t && (!a0.toList.isEmpty && mayT o x a1 a8 a9 a10))))))))
def reelkeeperref04_May.f (k : Nat) (a0_0 a0_1 a0_2 : ByteArray) (a0_3 a0_4 a0_5 a0_6 a0_7 a0_8 a0_9 a0_10 : Int) : Option Bool := (reelkeeperref04_word.f k a0_0 100).bind fun n => (reelkeeperref04_word.f k a0_2 100).bind fun l => (reelkeeperref04_word.f k a0_1 155).bind fun p => (reelkeeperref04_fits.f a0_3 8).bind fun m => (reelkeeperref04_fits.f a0_4 8).bind fun u => (reelkeeperref04_fits.f a0_5 8).bind fun g => (reelkeeperref04_fits.f a0_6 12).bind fun s => (reelkeeperref04_fits.f a0_7 12).bind fun t => (reelkeeperref04_fits.f a0_9 12).bind fun o => (reelkeeperref04_fits.f a0_10 12).bind fun x => some (mayR n l p m u g s t o x a0_0 a0_1 a0_8 a0_9 a0_10)
theorem reelkeeperref04_May.mono : ∀ a0_0 a0_1 a0_2 a0_3 a0_4 a0_5 a0_6 a0_7 a0_8 a0_9 a0_10 k, LeO (reelkeeperref04_May.f k a0_0 a0_1 a0_2 a0_3 a0_4 a0_5 a0_6 a0_7 a0_8 a0_9 a0_10) (reelkeeperref04_May.f (k + 1) a0_0 a0_1 a0_2 a0_3 a0_4 a0_5 a0_6 a0_7 a0_8 a0_9 a0_10) := by
  intro a0_0 a0_1 a0_2 a0_3 a0_4 a0_5 a0_6 a0_7 a0_8 a0_9 a0_10 k
  exact LeO.bind (reelkeeperref04_word.mono _ _ _) (fun _ => LeO.bind (reelkeeperref04_word.mono _ _ _) (fun _ => LeO.bind (reelkeeperref04_word.mono _ _ _) (fun _ => LeO.bind (LeO.refl _) (fun _ => LeO.bind (LeO.refl _) (fun _ => LeO.bind (LeO.refl _) (fun _ => LeO.bind (LeO.refl _) (fun _ => LeO.bind (LeO.refl _) (fun _ => LeO.bind (LeO.refl _) (fun _ => LeO.bind (LeO.refl _) (fun _ => LeO.refl _))))))))))
set_option maxHeartbeats 6400000 in
theorem reelkeeperref04_May.calls (k : Nat) (a0_0 a0_1 a0_2 : ByteArray) (a0_3 a0_4 a0_5 a0_6 a0_7 a0_8 a0_9 a0_10 : Int) (r : Bool) (w : World) (h : reelkeeperref04_May.f k a0_0 a0_1 a0_2 a0_3 a0_4 a0_5 a0_6 a0_7 a0_8 a0_9 a0_10 = some r) :
    Calls Try.prog 67 #[.agg #[.string a0_0, .string a0_1, .string a0_2, .int .i64 a0_3, .int .i64 a0_4, .int .i64 a0_5, .int .i64 a0_6, .int .i64 a0_7, .int .u8 a0_8, .int .i64 a0_9, .int .i64 a0_10]] w fun e w' => e = .returned (.bool r) ∧ Below w.heap.size w w' := by
  unfold reelkeeperref04_May.f at h
  obtain ⟨n, b0, h⟩ := Option.bind_eq_some_iff.1 h
  obtain ⟨l, b1, h⟩ := Option.bind_eq_some_iff.1 h
  obtain ⟨p, b2, h⟩ := Option.bind_eq_some_iff.1 h
  obtain ⟨m, b3, h⟩ := Option.bind_eq_some_iff.1 h
  obtain ⟨u, b4, h⟩ := Option.bind_eq_some_iff.1 h
  obtain ⟨g, b5, h⟩ := Option.bind_eq_some_iff.1 h
  obtain ⟨s, b6, h⟩ := Option.bind_eq_some_iff.1 h
  obtain ⟨t, b7, h⟩ := Option.bind_eq_some_iff.1 h
  obtain ⟨o, b8, h⟩ := Option.bind_eq_some_iff.1 h
  obtain ⟨x, b9, h⟩ := Option.bind_eq_some_iff.1 h
  obtain rfl := Option.some.inj h
  have hw0 := fun W => reelkeeperref04_word.calls k a0_0 100 n W b0
  have hw2 := fun W => reelkeeperref04_word.calls k a0_2 100 l W b1
  have hw1 := fun W => reelkeeperref04_word.calls k a0_1 155 p W b2
  have hf3 := fun W => reelkeeperref04_fits.calls a0_3 8 m W b3
  have hf4 := fun W => reelkeeperref04_fits.calls a0_4 8 u W b4
  have hf5 := fun W => reelkeeperref04_fits.calls a0_5 8 g W b5
  have hf6 := fun W => reelkeeperref04_fits.calls a0_6 12 s W b6
  have hf7 := fun W => reelkeeperref04_fits.calls a0_7 12 t W b7
  have hf9 := fun W => reelkeeperref04_fits.calls a0_9 12 o W b8
  have hf10 := fun W => reelkeeperref04_fits.calls a0_10 12 x W b9
  clear h b0 b1 b2 b3 b4 b5 b6 b7 b8 b9
  obtain ⟨R, hR⟩ : ∃ R, mayR n l p m u g s t o x a0_0 a0_1 a0_8 a0_9 a0_10 = R := ⟨_, rfl⟩
  have HR := Aside0.mk hR
  rw [hR]
  clear hR
  have HB0 := Aside0.mk (below_alloc (Below.refl w.heap.size w) (.cells #[.string a0_0, .string a0_1, .string a0_2, .int .i64 a0_3, .int .i64 a0_4, .int .i64 a0_5, .int .i64 a0_6, .int .i64 a0_7, .int .u8 a0_8, .int .i64 a0_9, .int .i64 a0_10] 37))
  have HX0 := Aside0.mk (heap_alloc_new w (.cells #[.string a0_0, .string a0_1, .string a0_2, .int .i64 a0_3, .int .i64 a0_4, .int .i64 a0_5, .int .i64 a0_6, .int .i64 a0_7, .int .u8 a0_8, .int .i64 a0_9, .int .i64 a0_10] 37))
  go_enter Try.func67, Try.ntmps67
  go_upto_region 9 with (first | (go_at_call 102; (with_reducible refine (hw0 _).mono ?_); rintro e wa ⟨rfl, ⟨⟨nda, rfl⟩⟩⟩) | (go_at_call 102; (with_reducible refine (hw2 _).mono ?_); rintro e wb ⟨rfl, ⟨⟨ndb, rfl⟩⟩⟩) | (go_at_call 102; (with_reducible refine (hw1 _).mono ?_); rintro e wc ⟨rfl, ⟨⟨ndc, rfl⟩⟩⟩) | (have _t := HB0; go_at_call 103; (with_reducible refine (hf3 _).mono ?_); rintro e w1 ⟨rfl, hb⟩; have HB1 := Aside0.mk (below_step (by repeat (first | exact HB0.out | apply pw_below_drewN | apply below_drew1)) hb); have HX1 := Aside0.mk (blk_below (by repeat (first | exact HX0.out | apply blk_drewN | apply blk_drew)) hb); clear hb; obtain ⟨z0_1, z1_1, z2_1, z3_1, z4_1, z5_1, z6_1, z7_1, z8_1, z9_1, z10_1⟩ := cells11 HX1.out) | (have _t := HB1; go_at_call 103; (with_reducible refine (hf4 _).mono ?_); rintro e w2 ⟨rfl, hb⟩; have HB2 := Aside0.mk (below_step (by repeat (first | exact HB1.out | apply pw_below_drewN | apply below_drew1)) hb); have HX2 := Aside0.mk (blk_below (by repeat (first | exact HX1.out | apply blk_drewN | apply blk_drew)) hb); clear hb; obtain ⟨z0_2, z1_2, z2_2, z3_2, z4_2, z5_2, z6_2, z7_2, z8_2, z9_2, z10_2⟩ := cells11 HX2.out) | (have _t := HB2; go_at_call 103; (with_reducible refine (hf5 _).mono ?_); rintro e w3 ⟨rfl, hb⟩; have HB3 := Aside0.mk (below_step (by repeat (first | exact HB2.out | apply pw_below_drewN | apply below_drew1)) hb); have HX3 := Aside0.mk (blk_below (by repeat (first | exact HX2.out | apply blk_drewN | apply blk_drew)) hb); clear hb; obtain ⟨z0_3, z1_3, z2_3, z3_3, z4_3, z5_3, z6_3, z7_3, z8_3, z9_3, z10_3⟩ := cells11 HX3.out) | (have _t := HB3; go_at_call 103; (with_reducible refine (hf6 _).mono ?_); rintro e w4 ⟨rfl, hb⟩; have HB4 := Aside0.mk (below_step (by repeat (first | exact HB3.out | apply pw_below_drewN | apply below_drew1)) hb); have HX4 := Aside0.mk (blk_below (by repeat (first | exact HX3.out | apply blk_drewN | apply blk_drew)) hb); clear hb; obtain ⟨z0_4, z1_4, z2_4, z3_4, z4_4, z5_4, z6_4, z7_4, z8_4, z9_4, z10_4⟩ := cells11 HX4.out) | (have _t := HB4; go_at_call 103; (with_reducible refine (hf7 _).mono ?_); rintro e w5 ⟨rfl, hb⟩; have HB5 := Aside0.mk (below_step (by repeat (first | exact HB4.out | apply pw_below_drewN | apply below_drew1)) hb); have HX5 := Aside0.mk (blk_below (by repeat (first | exact HX4.out | apply blk_drewN | apply blk_drew)) hb); clear hb; obtain ⟨z0_5, z1_5, z2_5, z3_5, z4_5, z5_5, z6_5, z7_5, z8_5, z9_5, z10_5⟩ := cells11 HX5.out))
  clear hw0 hw1 hw2 hf3 hf4 hf5 hf6 hf7
  cases n
  case false => go_wp2_with (fail); go_ret; exact ⟨by rw [← HR.out, mayR]; simp [mayT, *], (by repeat (first | exact HB5.out | apply pw_below_drewN | apply below_drew1))⟩
  cases l
  case false => go_wp2_with (fail); go_ret; exact ⟨by rw [← HR.out, mayR]; simp [mayT, *], (by repeat (first | exact HB5.out | apply pw_below_drewN | apply below_drew1))⟩
  cases p
  case false => go_wp2_with (fail); go_ret; exact ⟨by rw [← HR.out, mayR]; simp [mayT, *], (by repeat (first | exact HB5.out | apply pw_below_drewN | apply below_drew1))⟩
  cases m
  case false => go_wp2_with (fail); go_ret; exact ⟨by rw [← HR.out, mayR]; simp [mayT, *], (by repeat (first | exact HB5.out | apply pw_below_drewN | apply below_drew1))⟩
  cases u
  case false => go_wp2_with (fail); go_ret; exact ⟨by rw [← HR.out, mayR]; simp [mayT, *], (by repeat (first | exact HB5.out | apply pw_below_drewN | apply below_drew1))⟩
  cases g
  case false => go_wp2_with (fail); go_ret; exact ⟨by rw [← HR.out, mayR]; simp [mayT, *], (by repeat (first | exact HB5.out | apply pw_below_drewN | apply below_drew1))⟩
  cases s
  case false => go_wp2_with (fail); go_ret; exact ⟨by rw [← HR.out, mayR]; simp [mayT, *], (by repeat (first | exact HB5.out | apply pw_below_drewN | apply below_drew1))⟩
  cases t
  case false => go_wp2_with (fail); go_ret; exact ⟨by rw [← HR.out, mayR]; simp [mayT, *], (by repeat (first | exact HB5.out | apply pw_below_drewN | apply below_drew1))⟩
  cases e0 : a0_0.toList.isEmpty
  case true => go_wp2_with (fail); go_ret; exact ⟨by rw [← HR.out, mayR]; simp [mayT, *], (by repeat (first | exact HB5.out | apply pw_below_drewN | apply below_drew1))⟩
  by_cases k77 : a0_8 = 77
  · subst k77
    cases e1 : a0_1.toList.isEmpty
    · go_wp2_with (first | (have _t := HB5; go_at_call 103; (with_reducible refine (hf9 _).mono ?_); rintro e w6 ⟨rfl, hb⟩; have HB6 := Aside0.mk (below_step (by repeat (first | exact HB5.out | apply pw_below_drewN | apply below_drew1)) hb); have HX6 := Aside0.mk (blk_below (by repeat (first | exact HX5.out | apply blk_drewN | apply blk_drew)) hb); clear hb; obtain ⟨z0_6, z1_6, z2_6, z3_6, z4_6, z5_6, z6_6, z7_6, z8_6, z9_6, z10_6⟩ := cells11 HX6.out) | (have _t := HB6; go_at_call 103; (with_reducible refine (hf10 _).mono ?_); rintro e w7 ⟨rfl, hb⟩; have HB7 := Aside0.mk (below_step (by repeat (first | exact HB6.out | apply pw_below_drewN | apply below_drew1)) hb); have HX7 := Aside0.mk (blk_below (by repeat (first | exact HX6.out | apply blk_drewN | apply blk_drew)) hb); clear hb; obtain ⟨z0_7, z1_7, z2_7, z3_7, z4_7, z5_7, z6_7, z7_7, z8_7, z9_7, z10_7⟩ := cells11 HX7.out)); go_ret; exact ⟨by rw [← HR.out, mayR]; simp [mayT, *], (by repeat (first | exact HB7.out | apply pw_below_drewN | apply below_drew1))⟩
    cases o
    · go_wp2_with (first | (have _t := HB5; go_at_call 103; (with_reducible refine (hf9 _).mono ?_); rintro e w6 ⟨rfl, hb⟩; have HB6 := Aside0.mk (below_step (by repeat (first | exact HB5.out | apply pw_below_drewN | apply below_drew1)) hb); have HX6 := Aside0.mk (blk_below (by repeat (first | exact HX5.out | apply blk_drewN | apply blk_drew)) hb); clear hb; obtain ⟨z0_6, z1_6, z2_6, z3_6, z4_6, z5_6, z6_6, z7_6, z8_6, z9_6, z10_6⟩ := cells11 HX6.out) | (have _t := HB6; go_at_call 103; (with_reducible refine (hf10 _).mono ?_); rintro e w7 ⟨rfl, hb⟩; have HB7 := Aside0.mk (below_step (by repeat (first | exact HB6.out | apply pw_below_drewN | apply below_drew1)) hb); have HX7 := Aside0.mk (blk_below (by repeat (first | exact HX6.out | apply blk_drewN | apply blk_drew)) hb); clear hb; obtain ⟨z0_7, z1_7, z2_7, z3_7, z4_7, z5_7, z6_7, z7_7, z8_7, z9_7, z10_7⟩ := cells11 HX7.out)); go_ret; exact ⟨by rw [← HR.out, mayR]; simp [mayT, *], (by repeat (first | exact HB7.out | apply pw_below_drewN | apply below_drew1))⟩
    · go_wp2_with (first | (have _t := HB5; go_at_call 103; (with_reducible refine (hf9 _).mono ?_); rintro e w6 ⟨rfl, hb⟩; have HB6 := Aside0.mk (below_step (by repeat (first | exact HB5.out | apply pw_below_drewN | apply below_drew1)) hb); have HX6 := Aside0.mk (blk_below (by repeat (first | exact HX5.out | apply blk_drewN | apply blk_drew)) hb); clear hb; obtain ⟨z0_6, z1_6, z2_6, z3_6, z4_6, z5_6, z6_6, z7_6, z8_6, z9_6, z10_6⟩ := cells11 HX6.out) | (have _t := HB6; go_at_call 103; (with_reducible refine (hf10 _).mono ?_); rintro e w7 ⟨rfl, hb⟩; have HB7 := Aside0.mk (below_step (by repeat (first | exact HB6.out | apply pw_below_drewN | apply below_drew1)) hb); have HX7 := Aside0.mk (blk_below (by repeat (first | exact HX6.out | apply blk_drewN | apply blk_drew)) hb); clear hb; obtain ⟨z0_7, z1_7, z2_7, z3_7, z4_7, z5_7, z6_7, z7_7, z8_7, z9_7, z10_7⟩ := cells11 HX7.out)); go_ret; exact ⟨by rw [← HR.out, mayR]; simp [mayT, *], (by repeat (first | exact HB7.out | apply pw_below_drewN | apply below_drew1))⟩
  have k77b : (a0_8 == 77) = false := beq_eq_false_iff_ne.2 k77
  clear hf9 hf10
  by_cases k48 : a0_8 = 48
  · subst k48
    cases c9 : (a0_9 == 0)
    · go_wp2_with (fail); go_ret; exact ⟨by rw [← HR.out, mayR]; simp [mayT, *], (by repeat (first | exact HB5.out | apply pw_below_drewN | apply below_drew1))⟩
    · go_wp2_with (fail); go_ret; exact ⟨by rw [← HR.out, mayR]; simp [mayT, *], (by repeat (first | exact HB5.out | apply pw_below_drewN | apply below_drew1))⟩
  have k48b : (a0_8 == 48) = false := beq_eq_false_iff_ne.2 k48
  by_cases k49 : a0_8 = 49
  · subst k49
    cases c9 : (a0_9 == 0)
    · go_wp2_with (fail); go_ret; exact ⟨by rw [← HR.out, mayR]; simp [mayT, *], (by repeat (first | exact HB5.out | apply pw_below_drewN | apply below_drew1))⟩
    · go_wp2_with (fail); go_ret; exact ⟨by rw [← HR.out, mayR]; simp [mayT, *], (by repeat (first | exact HB5.out | apply pw_below_drewN | apply below_drew1))⟩
  have k49b : (a0_8 == 49) = false := beq_eq_false_iff_ne.2 k49
  by_cases k50 : a0_8 = 50
  · subst k50
    cases c9 : (a0_9 == 0)
    · go_wp2_with (fail); go_ret; exact ⟨by rw [← HR.out, mayR]; simp [mayT, *], (by repeat (first | exact HB5.out | apply pw_below_drewN | apply below_drew1))⟩
    · go_wp2_with (fail); go_ret; exact ⟨by rw [← HR.out, mayR]; simp [mayT, *], (by repeat (first | exact HB5.out | apply pw_below_drewN | apply below_drew1))⟩
  have k50b : (a0_8 == 50) = false := beq_eq_false_iff_ne.2 k50
  by_cases k53 : a0_8 = 53
  · subst k53
    cases c9 : (a0_9 == 0)
    · go_wp2_with (fail); go_ret; exact ⟨by rw [← HR.out, mayR]; simp [mayT, *], (by repeat (first | exact HB5.out | apply pw_below_drewN | apply below_drew1))⟩
    · go_wp2_with (fail); go_ret; exact ⟨by rw [← HR.out, mayR]; simp [mayT, *], (by repeat (first | exact HB5.out | apply pw_below_drewN | apply below_drew1))⟩
  have k53b : (a0_8 == 53) = false := beq_eq_false_iff_ne.2 k53
  by_cases k75 : a0_8 = 75
  · subst k75
    cases c9 : (a0_9 == 0)
    · go_wp2_with (fail); go_ret; exact ⟨by rw [← HR.out, mayR]; simp [mayT, *], (by repeat (first | exact HB5.out | apply pw_below_drewN | apply below_drew1))⟩
    · go_wp2_with (fail); go_ret; exact ⟨by rw [← HR.out, mayR]; simp [mayT, *], (by repeat (first | exact HB5.out | apply pw_below_drewN | apply below_drew1))⟩
  have k75b : (a0_8 == 75) = false := beq_eq_false_iff_ne.2 k75
  by_cases k76 : a0_8 = 76
  · subst k76
    cases c9 : (a0_9 == 0)
    · go_wp2_with (fail); go_ret; exact ⟨by rw [← HR.out, mayR]; simp [mayT, *], (by repeat (first | exact HB5.out | apply pw_below_drewN | apply below_drew1))⟩
    · go_wp2_with (fail); go_ret; exact ⟨by rw [← HR.out, mayR]; simp [mayT, *], (by repeat (first | exact HB5.out | apply pw_below_drewN | apply below_drew1))⟩
  have k76b : (a0_8 == 76) = false := beq_eq_false_iff_ne.2 k76
  by_cases k86 : a0_8 = 86
  · subst k86
    cases c9 : (a0_9 == 0)
    · go_wp2_with (fail); go_ret; exact ⟨by rw [← HR.out, mayR]; simp [mayT, *], (by repeat (first | exact HB5.out | apply pw_below_drewN | apply below_drew1))⟩
    · go_wp2_with (fail); go_ret; exact ⟨by rw [← HR.out, mayR]; simp [mayT, *], (by repeat (first | exact HB5.out | apply pw_below_drewN | apply below_drew1))⟩
  have k86b : (a0_8 == 86) = false := beq_eq_false_iff_ne.2 k86
  go_wp2_with (fail); go_ret; exact ⟨by rw [← HR.out, mayR]; simp [mayT, *], (by repeat (first | exact HB5.out | apply pw_below_drewN | apply below_drew1))⟩

end Go.Proofs.Ytekfgmpldgoglaa.X
namespace Go.Proofs.Ytekfgmpldgoglaa.X
open Go.RowKit Go.Proofs.YtekfgmpldgoglaaW.PrintWords Go.Proofs.YtekfgmpldgoglaaW.PrintLast Go.Proofs.YtekfgmpldgoglaaW.PrintMore
attribute [local go_sem] max2_int min2_int max_two min_two
set_option linter.unusedVariables false
set_option linter.unusedSimpArgs false

/-! ### reelkeeperref04_Sum: function 71 -/
def reelkeeperref04_Sum.l0 : Nat → List Int → Int → Int → Option (Int)
  | 0, _, _, _ => none
  | k + 1, x0, x3, x4 => if x4 < 512 then (if x4 ≥ 148 then (if x4 < 156 then (reelkeeperref04_Sum.l0 k x0 (wrap64 (x3 + 32)) (wrap64 (x4 + 1))) else (if 0 ≤ x4 then (if x4 < (x0.length : Int) then (reelkeeperref04_Sum.l0 k x0 (wrap64 (x3 + (wrap64 (rd x0 x4)))) (wrap64 (x4 + 1))) else (none)) else (none))) else (if 0 ≤ x4 then (if x4 < (x0.length : Int) then (reelkeeperref04_Sum.l0 k x0 (wrap64 (x3 + (wrap64 (rd x0 x4)))) (wrap64 (x4 + 1))) else (none)) else (none))) else (some x3)
def reelkeeperref04_Sum.f (k : Nat) (l0 : List Int) : Option (Int) := if (l0.length : Int) = 512 then (reelkeeperref04_Sum.l0 k l0 0 0) else (some (-1))
theorem reelkeeperref04_Sum.mono_l : ∀ k, (∀ y0 y1 y2, LeO (reelkeeperref04_Sum.l0 k y0 y1 y2) (reelkeeperref04_Sum.l0 (k + 1) y0 y1 y2))
  | 0 => fun _ _ _ r h => by simp [reelkeeperref04_Sum.l0] at h
  | k + 1 => by
    have ih0 := reelkeeperref04_Sum.mono_l k
    · intro y0 y1 y2
      unfold reelkeeperref04_Sum.l0
      repeat' first
      | (with_reducible exact ih0 _ _ _)
      | (with_reducible exact LeO.refl _)
      | (with_reducible exact LeO.none _)
      | (with_reducible refine LeO.ite ?_ ?_)
      | (with_reducible refine LeO.bind ?_ (fun _ => ?_))
      | exact ih0 _ _ _
      | exact LeO.none _
      | refine LeO.ite ?_ ?_
      | refine LeO.bind ?_ (fun _ => ?_)
theorem reelkeeperref04_Sum.mono : ∀ a0 k, LeO (reelkeeperref04_Sum.f k a0) (reelkeeperref04_Sum.f (k + 1) a0) := by
  intro a0 k
  have ih0 := reelkeeperref04_Sum.mono_l k
  unfold reelkeeperref04_Sum.f
  repeat' first
      | (with_reducible exact ih0 _ _ _)
      | (with_reducible exact LeO.refl _)
      | (with_reducible exact LeO.none _)
      | (with_reducible refine LeO.ite ?_ ?_)
      | (with_reducible refine LeO.bind ?_ (fun _ => ?_))
      | exact ih0 _ _ _
      | exact LeO.none _
      | refine LeO.ite ?_ ?_
      | refine LeO.bind ?_ (fun _ => ?_)
set_option maxHeartbeats 8000000 in
set_option maxRecDepth 100000 in
theorem reelkeeperref04_Sum.calls (k : Nat) (A0 : Option Addr) (c0 : Nat) (l0 : List Int) (r : Int) (w : World) (hr0 : Kd.C (Kd.int .u8) w A0 l0.length l0) (hc0 : l0.length ≤ c0) (h : reelkeeperref04_Sum.f k l0 = some r) :
    Calls Try.prog 71 #[.slice A0 l0.length c0] w fun e w' => e = .returned (.int .i64 r) ∧ Drawn0 w w' := by
  have HR0 := Aside0.mk hr0
  have HC0 := Aside0.mk hc0
  clear hr0 hc0
  have H : (if (l0.length : Int) = 512 then (reelkeeperref04_Sum.l0 k l0 0 0) else (some (-1))) = some r := h
  clear h
  by_cases c2 : (l0.length : Int) = 512
  · rw [if_pos c2] at H
    have c2b0 : ((l0.length : Int) == 512) = true := beq_iff_eq.mpr c2
    have c2b1 : ((l0.length : Int) != 512) = false := bne_eq_false_iff_eq.mpr c2
    clear c2
    have H' := Aside0.mk H
    clear H
    go_enter Try.func71, Try.ntmps71
    go_wp2
    go_loopg [3, 4] k (fun kq v3 v4 w' => ∃ (x3_1 : Int) (x4_1 : Int), v3 = .int .i64 x3_1 ∧ v4 = .int .i64 x4_1 ∧ Aside0 (reelkeeperref04_Sum.l0 kq l0 x3_1 x4_1 = some r) ∧ Aside0 (kq ≤ k) ∧ Drawn0 w w')
    case atStart => exact ⟨(0), (0), (by first | rfl | (simp; done) | (simp [*]; done)), (by first | rfl | (simp; done) | (simp [*]; done)), H', ⟨Nat.le_refl _⟩, by repeat (first | exact Drawn0.refl _ | apply Drawn0.step)⟩
    case round =>
      clear H'
      try clear c2
      try clear c2b0
      try clear c2b1
      try clear p2
      obtain ⟨x3_1, x4_1, rfl, rfl, HA, HK1, ⟨m1, rfl⟩⟩ := hrel
      cases gk with
      | zero => exact absurd HA.out (by simp [reelkeeperref04_Sum.l0])
      | succ k1 =>
        have H := HA.out
        clear HA
        simp only [reelkeeperref04_Sum.l0] at H
        by_cases c3 : x4_1 < 512
        · rw [if_pos c3] at H
          have c3b0 : decide (x4_1 < 512) = true := decide_eq_true c3
          clear c3
          by_cases c4 : x4_1 ≥ 148
          · rw [if_pos c4] at H
            have c4b0 : decide (148 ≤ x4_1) = true := decide_eq_true c4
            clear c4
            by_cases c5 : x4_1 < 156
            · rw [if_pos c5] at H
              have c5b0 : decide (x4_1 < 156) = true := decide_eq_true c5
              clear c5
              have H' := Aside0.mk H
              clear H
              go_wp2
              go_roundg k1
              case measure => have := HK1.out; omega
              case rel => exact ⟨(wrap64 (x3_1 + 32)), (wrap64 (x4_1 + 1)), (by first | rfl | (simp; done) | (simp [*]; done)), (by first | rfl | (simp; done) | (simp [*]; done)), H', ⟨by have := HK1.out; omega⟩, by repeat (first | exact Drawn0.refl _ | apply Drawn0.step)⟩
            · rw [if_neg c5] at H
              have c5b0 : decide (x4_1 < 156) = false := decide_eq_false c5
              clear c5
              by_cases c6 : 0 ≤ x4_1
              · rw [if_pos c6] at H
                have c6b0 : decide (0 ≤ x4_1) = true := decide_eq_true c6
                clear c6
                by_cases c7 : x4_1 < (l0.length : Int)
                · rw [if_pos c7] at H
                  have c7b0 : decide (x4_1 < (l0.length : Int)) = true := decide_eq_true c7
                  clear c7
                  have H' := Aside0.mk H
                  clear H
                  have p101 : 0 ≤ (x4_1 : Int) := of_decide_eq_true (by first | (with_reducible assumption) | assumption)
                  have q101 : x4_1 < (l0.length : Int) := of_decide_eq_true (by first | (with_reducible assumption) | assumption)
                  obtain ⟨ad101, e101, hx101_0⟩ := Kd.at_int HR0.out x4_1 p101 q101
                  cases e101
                  replace p101 := eq_true p101
                  replace q101 := eq_true q101
                  go_wp2
                  go_roundg k1
                  case measure => have := HK1.out; omega
                  case rel => exact ⟨(wrap64 (x3_1 + (wrap64 (rd l0 x4_1)))), (wrap64 (x4_1 + 1)), (by first | rfl | (simp; done) | (simp [*]; done)), (by first | rfl | (simp; done) | (simp [*]; done)), H', ⟨by have := HK1.out; omega⟩, by repeat (first | exact Drawn0.refl _ | apply Drawn0.step)⟩
                · rw [if_neg c7] at H
                  exact absurd H (by simp)
              · rw [if_neg c6] at H
                exact absurd H (by simp)
          · rw [if_neg c4] at H
            have c4b0 : decide (148 ≤ x4_1) = false := decide_eq_false c4
            clear c4
            by_cases c8 : 0 ≤ x4_1
            · rw [if_pos c8] at H
              have c8b0 : decide (0 ≤ x4_1) = true := decide_eq_true c8
              clear c8
              by_cases c9 : x4_1 < (l0.length : Int)
              · rw [if_pos c9] at H
                have c9b0 : decide (x4_1 < (l0.length : Int)) = true := decide_eq_true c9
                clear c9
                have H' := Aside0.mk H
                clear H
                have p102 : 0 ≤ (x4_1 : Int) := of_decide_eq_true (by first | (with_reducible assumption) | assumption)
                have q102 : x4_1 < (l0.length : Int) := of_decide_eq_true (by first | (with_reducible assumption) | assumption)
                obtain ⟨ad102, e102, hx102_0⟩ := Kd.at_int HR0.out x4_1 p102 q102
                cases e102
                replace p102 := eq_true p102
                replace q102 := eq_true q102
                go_wp2
                go_roundg k1
                case measure => have := HK1.out; omega
                case rel => exact ⟨(wrap64 (x3_1 + (wrap64 (rd l0 x4_1)))), (wrap64 (x4_1 + 1)), (by first | rfl | (simp; done) | (simp [*]; done)), (by first | rfl | (simp; done) | (simp [*]; done)), H', ⟨by have := HK1.out; omega⟩, by repeat (first | exact Drawn0.refl _ | apply Drawn0.step)⟩
              · rw [if_neg c9] at H
                exact absurd H (by simp)
            · rw [if_neg c8] at H
              exact absurd H (by simp)
        · rw [if_neg c3] at H
          have c3b0 : decide (x4_1 < 512) = false := decide_eq_false c3
          clear c3
          obtain rfl := Option.some.inj H
          go_wp2
          go_ret
          exact ⟨by first | rfl | (simp; done) | (simp [*]; done), by repeat (first | exact Drawn0.refl _ | apply Drawn0.step)⟩
  · rw [if_neg c2] at H
    have c2b0 : ((l0.length : Int) == 512) = false := beq_eq_false_iff_ne.mpr c2
    have c2b1 : ((l0.length : Int) != 512) = true := bne_iff_ne.mpr c2
    obtain rfl := Option.some.inj H
    go_enter Try.func71, Try.ntmps71
    go_wp2
    go_ret
    exact ⟨by first | rfl | (simp; done) | (simp [*]; done), by repeat (first | exact Drawn0.refl _ | apply Drawn0.step)⟩

end Go.Proofs.Ytekfgmpldgoglaa.X
namespace Go.Proofs.Ytekfgmpldgoglaa.X
open Go.RowKit Go.Proofs.YtekfgmpldgoglaaW.PrintWords Go.Proofs.YtekfgmpldgoglaaW.PrintLast Go.Proofs.YtekfgmpldgoglaaW.PrintMore
attribute [local go_sem] max2_int min2_int max_two min_two
set_option linter.unusedVariables false
set_option linter.unusedSimpArgs false

open Go.Proofs.YtekfgmpldgoglaaY
def rb0 (h : Hd) : List Int := splice (List.replicate 512 0) 0 (bytesOf h.f0)
def rb1 (h : Hd) : List Int := splice (splice (splice (splice (splice (rb0 h) 100 (putN h.f3 8).1) 108 (putN h.f4 8).1) 116 (putN h.f5 8).1) 124 (putN h.f6 12).1) 136 (putN h.f7 12).1
def rb2 (h : Hd) : List Int := splice (splice ((rb1 h).set 156 h.f8) 157 (bytesOf h.f2)) 257 [117, 115, 116, 97, 114, 0, 48, 48]
def rb3 (h : Hd) : List Int := if h.f8 = 77 then splice (splice (rb2 h) 369 (putN h.f9 12).1) 483 (putN h.f10 12).1 else splice (rb2 h) 345 (bytesOf h.f1)
/-- A header's block, as the reference lays it. -/
def refBlk (h : Hd) : List Int := splice (rb3 h) 148 (signL (sumL (rb3 h) 0))
theorem refSum_ev (l : List Int) (hl : l.length = 512) (hr : ∀ c ∈ l, 0 ≤ c ∧ c ≤ 255) : Ev (fun k => reelkeeperref04_Sum.f k l) (sumL l 0) := by
  have key : ∀ (d i : Nat) (s : Int), i + d = 512 → 0 ≤ s → s ≤ 255 * i → Ev (fun k => reelkeeperref04_Sum.l0 k l s (i : Int)) (s + sumL (l.drop i) i) := by
    intro d
    induction d with
    | zero =>
      intro i s hi h0 h1
      refine Ev.step (fun _ => rfl) ?_
      simp only [reelkeeperref04_Sum.l0]
      refine Ev.ifn (by omega) ?_
      rw [List.drop_of_length_le (by omega), sumL, Int.add_zero]
      exact Ev.now _
    | succ d ih =>
      intro i s hi h0 h1
      have hlt : i < l.length := by omega
      have hrd : rd l (i : Int) = l[i] := by unfold rd; simp [List.getD_eq_getElem?_getD, List.getElem?_eq_getElem hlt]
      have hb := hr l[i] (List.getElem_mem hlt)
      have hd : l.drop i = l[i] :: l.drop (i + 1) := List.drop_eq_getElem_cons hlt
      refine Ev.step (fun _ => rfl) ?_
      simp only [reelkeeperref04_Sum.l0]
      refine Ev.ifp (by omega) ?_
      have hw : wrap64 ((i : Int) + 1) = ((i + 1 : Nat) : Int) := by unfold wrap64; omega
      have hw2 : wrap64 l[i] = l[i] := by unfold wrap64; omega
      have hw3 : wrap64 (s + l[i]) = s + l[i] := by unfold wrap64; omega
      have hw4 : wrap64 (s + 32) = s + 32 := by unfold wrap64; omega
      rw [hw, hrd, hd, sumL, hw2, hw3, hw4]
      clear hw hw2 hw3 hw4
      by_cases c1 : (i : Int) ≥ 148
      · refine Ev.ifp c1 ?_
        by_cases c2 : (i : Int) < 156
        · refine Ev.ifp c2 ?_
          rw [if_pos (by omega), ← Int.add_assoc]
          exact ih (i + 1) (s + 32) (by omega) (by omega) (by omega)
        · refine Ev.ifn c2 ?_
          rw [if_neg (by omega), ← Int.add_assoc]
          refine Ev.ifp (by omega) ?_
          refine Ev.ifp (by omega) ?_
          exact ih (i + 1) (s + l[i]) (by omega) (by omega) (by omega)
      · refine Ev.ifn c1 ?_
        rw [if_neg (by omega), ← Int.add_assoc]
        refine Ev.ifp (by omega) ?_
        refine Ev.ifp (by omega) ?_
        exact ih (i + 1) (s + l[i]) (by omega) (by omega) (by omega)
  have h := key 512 0 0 rfl (Int.le_refl _) (by omega)
  rw [List.drop_zero, Int.zero_add] at h
  unfold reelkeeperref04_Sum.f
  exact Ev.ifp (by omega) h
theorem reelkeeperref04_Sum.at_ (A : Option Addr) (c : Nat) (l : List Int) (w : World) (hl : l.length = 512) (hr : ∀ c ∈ l, 0 ≤ c ∧ c ≤ 255) (hC : Kd.C (Kd.int .u8) w A l.length l) (hc : l.length ≤ c) :
    Calls Try.prog 71 #[.slice A l.length c] w fun e w' => e = .returned (.int .i64 (sumL l 0)) ∧ Drawn0 w w' := by
  obtain ⟨k, hk⟩ := (refSum_ev l hl hr).rounds
  exact reelkeeperref04_Sum.calls k A c l _ w hC hc hk
theorem RowAt.set156 {w : World} {h : Hd} {g : Nat} {l : List Int} {W : World} (k : RowAt w h g l W) (x : Int) (hx : 0 ≤ x ∧ x ≤ 255) : RowAt w h g (l.set 156 x) (W.setCell ⟨g, 156, none⟩ (.int .u8 x)) :=
  k.turn (Turn.setCell _ _ rfl) (by rw [← nums_set]; exact blk_set k.row 156 _) (by rw [List.length_set]; exact k.len) (fun c hc => by
    rcases List.mem_or_eq_of_mem_set hc with h | rfl
    · exact k.byte c h
    · exact hx)
theorem RowAt.layS {w : World} {h : Hd} {g : Nat} {l : List Int} {W : World} (k : RowAt w h g l W) (at_ : Int) (h0 : 0 ≤ at_) (s : ByteArray) (hfit : at_.toNat + s.size ≤ 512) :
    Calls Try.prog 68 #[.slice (some ⟨g, 0, none⟩) 512 512, .int .i64 at_, .slice (some ⟨W.heap.size, 0, none⟩) s.size (grownCap W s.size 0 5)] (Lib.bytesWorld W 5 s) fun e w' => e = .returned (.slice (some ⟨g, 0, none⟩) 512 512) ∧ RowAt w h g (splice l at_.toNat (bytesOf s)) w' := by
  have hgW := blk_lt k.row
  have hcc := bytes_C (W := W) (s := s) (by omega)
  have hbo := bytesOf_length s
  have := (k.below (bytes_below (Below.refl _ _) (Nat.le_refl _) 5 s)).lay at_ h0 (some ⟨W.heap.size, 0, none⟩) (grownCap W s.size 0 5) (bytesOf s) (by rw [hbo]; exact hcc) (fun ad h => by cases h; simp only; omega) (by rw [hbo]; exact hfit) (byteOk_bytesOf s)
  rw [hbo] at this
  exact this
theorem RowAt.layB {w : World} {h : Hd} {g : Nat} {l : List Int} {W : World} (k : RowAt w h g l W) (at_ : Int) (h0 : 0 ≤ at_) (x : List Int) (hfit : at_.toNat + x.length ≤ 512) (hx : byteOk x) :
    Calls Try.prog 68 #[.slice (some ⟨g, 0, none⟩) 512 512, .int .i64 at_, .slice (some ⟨W.heap.size, 0, none⟩) x.length x.length] (W.alloc (.cells (nums .u8 x).toArray 5)) fun e w' => e = .returned (.slice (some ⟨g, 0, none⟩) 512 512) ∧ RowAt w h g (splice l at_.toNat x) w' := by
  have hgW := blk_lt k.row
  exact (k.below (below_alloc (Below.refl _ _) _)).lay at_ h0 (some ⟨W.heap.size, 0, none⟩) x.length x (C_block (heap_alloc_new W _) (by omega)) (fun ad h => by cases h; simp only; omega) hfit hx
theorem hdFits {h : Hd} (hok : hdOk h = true) : (h.f0.size ≤ 100 ∧ h.f2.size ≤ 100 ∧ (h.f8 ≠ 77 → h.f1.size ≤ 155)) ∧ (putN h.f3 8).1.length = 8 ∧ (putN h.f4 8).1.length = 8 ∧ (putN h.f5 8).1.length = 8 ∧ (putN h.f6 12).1.length = 12 ∧ (putN h.f7 12).1.length = 12 ∧ (h.f8 = 77 → (putN h.f9 12).1.length = 12 ∧ (putN h.f10 12).1.length = 12) := by
  obtain ⟨h1, h2⟩ := hdOk_parts hok
  have w : ∀ x ∈ hdWords h, (x.2.2.2.size : Int) ≤ x.2.1 := by
    intro x hx
    have := List.all_eq_true.1 h1 x hx
    unfold wordOk at this
    simp only [Bool.and_eq_true, decide_eq_true_eq] at this
    exact this.1
  have n : ∀ x ∈ hdNumbers h, (putN x.2.2.2 x.2.1).1.length = x.2.1.toNat := fun x hx => (putN_length (List.all_eq_true.1 h2 x hx)).1
  unfold hdWords at w
  unfold hdNumbers at n
  refine ⟨⟨?_, ?_, fun hne => ?_⟩, n (100, 8, 3, h.f3) (by simp), n (108, 8, 4, h.f4) (by simp), n (116, 8, 5, h.f5) (by simp), n (124, 12, 6, h.f6) (by simp), n (136, 12, 7, h.f7) (by simp), fun he => ⟨?_, ?_⟩⟩
  · have := w (0, 100, 0, h.f0) (by simp); simp only at this; omega
  · have := w (157, 100, 2, h.f2) (by simp); simp only at this; omega
  · have := w (345, 155, 1, h.f1) (by rw [if_neg hne]; simp); simp only at this; omega
  · exact n (369, 12, 9, h.f9) (by rw [if_pos he]; simp)
  · exact n (483, 12, 10, h.f10) (by rw [if_pos he]; simp)
theorem RowAt.cell156 {w : World} {h : Hd} {g : Nat} {l : List Int} {W : World} (k : RowAt w h g l W) : ∃ u, W.cell? ⟨g, 156, none⟩ = some (.int .u8 u) ∧ W.frozen? ⟨g, 156, none⟩ = false := by
  have h1 := blk_cell k.row 156
  rw [List.getElem?_toArray] at h1
  unfold nums at h1
  rw [List.getElem?_map, List.getElem?_eq_getElem (by rw [k.len]; decide)] at h1
  exact ⟨_, h1, blk_frozen k.row 156⟩
theorem RowAt.sum {w : World} {h : Hd} {g : Nat} {l : List Int} {W : World} (k : RowAt w h g l W) :
    Calls Try.prog 71 #[.slice (some ⟨g, 0, none⟩) 512 512] W fun e w' => e = .returned (.int .i64 (sumL l 0)) ∧ RowAt w h g l w' := by
  have hl := k.len
  have := reelkeeperref04_Sum.at_ (some ⟨g, 0, none⟩) 512 l W hl k.byte (C_block k.row (by rw [hl]; decide)) (by rw [hl]; exact Nat.le_refl _)
  rw [hl] at this
  refine this.mono ?_
  rintro e w' ⟨rfl, n, rfl⟩
  exact ⟨rfl, k.below (pw_below_drewN (Below.refl _ _) _)⟩
theorem RowAt.sign {w : World} {h : Hd} {g : Nat} {l : List Int} {W : World} (k : RowAt w h g l W) :
    Calls Try.prog 70 #[.int .i64 (sumL l 0)] W fun e w' => ∃ A c, e = .returned (.slice A (signL (sumL l 0)).length c) ∧ RowAt w h g l w' ∧
      Calls Try.prog 68 #[.slice (some ⟨g, 0, none⟩) 512 512, .int .i64 148, .slice A (signL (sumL l 0)).length c] w' fun e w' => e = .returned (.slice (some ⟨g, 0, none⟩) 512 512) ∧ RowAt w h g (splice l 148 (signL (sumL l 0))) w' := by
  have hb := sumL_bd l 0 k.byte
  rw [k.len] at hb
  obtain ⟨n, hn⟩ := Int.eq_ofNat_of_zero_le hb.1
  rw [hn] at hb ⊢
  have hgW := blk_lt k.row
  refine (ref04_sign.at_ n (by omega) W).mono ?_
  rintro e w' ⟨A, c, rfl, hc, hC, hB, hA⟩
  refine ⟨A, c, rfl, k.below hB, ?_⟩
  have h8 : (signL (n : Int)).length = 8 := by
    unfold signL
    rw [List.length_append, octL_length]
    rfl
  exact (k.below hB).lay 148 (by decide) A c _ hC (fun ad h => by have := hA ad h; omega) (by rw [h8]; decide) (signL_byte _)
set_option maxHeartbeats 3200000 in
set_option maxRecDepth 100000 in
theorem reelkeeperref04_Put.ok (k : Nat) (h : Hd) (w : World) (hh : hdIn h) (hok : hdOk h = true) (hm : reelkeeperref04_May.f k h.f0 h.f1 h.f2 h.f3 h.f4 h.f5 h.f6 h.f7 h.f8 h.f9 h.f10 = some true) :
    Calls Try.prog 35 #[.agg (hdCells h).toArray] w fun e w' => ∃ v, e = .returned (.tuple #[v, .bool true]) ∧ Kd.R (Kd.int .u8) 5 w' w.heap.size (fun _ => True) v (refBlk h) ∧ Below w.heap.size w w' := by
  obtain ⟨⟨s0, s2, s1⟩, n3, n4, n5, n6, n7, n9⟩ := hdFits hok
  have hmay : ∀ W, Calls Try.prog 67 #[.agg (hdCells h).toArray] W fun e w' => e = .returned (.bool true) ∧ Below W.heap.size W w' := fun W => reelkeeperref04_May.calls k h.f0 h.f1 h.f2 h.f3 h.f4 h.f5 h.f6 h.f7 h.f8 h.f9 h.f10 true W hm
  have hmk : ∀ W : World, (Instr.makeSlice 41 (.int .i64 512) (.int .i64 512)).run Try.prog W = .ok (.slice (some ⟨W.heap.size, 0, none⟩) 512 512) (W.alloc (.cells (nums .u8 (List.replicate 512 0)).toArray 5)) := by
    intro W
    obtain ⟨i0, hi, hz0, hz1, hz2⟩ := info_parts info5
    have := run_make (P := Try.prog) W 41 5 i0 (.int .u8 0) Try.underlying41 hi hz0 .i64 .i64 512 512 (by decide) (by decide) (by rw [hz2]; decide) (by decide)
    rw [this, hz1]
    show Result.ok _ (W.alloc (.cells (madeCells #[Value.int .u8 0] 512) _)) = _
    rw [made_nums]
    rfl
  obtain ⟨z0, hz0⟩ : ∃ z0, List.replicate 512 (0 : Int) = z0 := ⟨_, rfl⟩
  have hzl : z0.length = 512 := by rw [← hz0, List.length_replicate]
  have hzb : byteOk z0 := by rw [← hz0]; intro c hc; obtain rfl := List.eq_of_mem_replicate hc; decide
  have hblk : refBlk h = refBlk h := rfl
  obtain ⟨rr, hrr⟩ : ∃ rr, refBlk h = rr := ⟨_, rfl⟩
  rw [hrr]
  have HRR := Aside0.mk hrr
  rw [hz0] at hmk
  have HZL := Aside0.mk hzl
  have HZB := Aside0.mk hzb
  have HZ0 := Aside0.mk hz0
  have HH := Aside0.mk hh
  have HMAY := Aside0.mk hmay
  have HS := Aside0.mk (And.intro s0 (And.intro s2 s1))
  have HN := Aside0.mk (And.intro n3 (And.intro n4 (And.intro n5 (And.intro n6 (And.intro n7 n9)))))
  have HBX := Aside0.mk (heap_alloc_new w (.cells (hdCells h).toArray 37))
  have HB0 := Aside0.mk (below_alloc (Below.refl w.heap.size w) (.cells (hdCells h).toArray 37))
  obtain ⟨f0, f1, f2, f3, f4, f5, f6, f7, f8, f9, f10⟩ := h
  have kb0 := fun W => print_bytes (P := Try.prog) 9 41 5 Try.underlying9 Try.underlying41 Try.underlying5 f0 W
  have kb1 := fun W => print_bytes (P := Try.prog) 9 41 5 Try.underlying9 Try.underlying41 Try.underlying5 f1 W
  have kb2 := fun W => print_bytes (P := Try.prog) 9 41 5 Try.underlying9 Try.underlying41 Try.underlying5 f2 W
  simp only [hdCells] at HMAY HBX HB0 ⊢
  clear hh hok hm hmay hblk hrr hz0 hzl hzb s0 s1 s2 n3 n4 n5 n6 n7 n9
  go_enter Try.func35, Try.ntmps35
  go_wp2_with (first | (go_at_call 67; refine (HMAY.out _).mono ?_; rintro e w1 ⟨rfl, hb1⟩))
  have HB1 := Aside0.mk (below_step HB0.out hb1)
  have HX1 := Aside0.mk (blk_below HBX.out hb1)
  have hgs : w.heap.size + 1 ≤ w1.heap.size := by have := hb1.size; simpa using this
  have y0 : w1.cell? ⟨w.heap.size, 0, none⟩ = some (.string f0) := (blk_cell HX1.out 0).trans rfl
  clear hb1
  go_cut [5] (fun v5 wc => ∃ g, v5 = .slice (some ⟨g, 0, none⟩) 512 512 ∧ Aside0 (RowAt w ⟨f0, f1, f2, f3, f4, f5, f6, f7, f8, f9, f10⟩ g (splice z0 (Int.toNat 0) (bytesOf f0)) wc))
  case first =>
    refine wp_region_held_drew (S := fun w' => w'.cell? ⟨w.heap.size, 0, none⟩ = some (.string f0)) (by kernel_rfl) y0 (fun hHeld => ?_)
    refine wpAnyH_take (i := 1) (v := ?_) rfl (by kernel_rfl) (by kernel_rfl) (by kernel_rfl) (fun _ _ _ h => h) (Or.inl ⟨by rfl, ?_⟩) (by assumption) ?_
    rotate_left
    · intro w hSw
      try dsimp only at hSw
      go_simp
      try with_reducible rfl
    try simp only [Act.put, List.setIfInBounds_toArray, List.set_cons_zero, List.set_cons_succ]
    refine wpAnyH_take (i := 2) (v := ?_) rfl (by kernel_rfl) (by kernel_rfl) (by kernel_rfl) (fun _ _ _ h => h) (Or.inl ⟨by rfl, ?_⟩) (by assumption) ?_
    rotate_left
    · intro w hSw
      try dsimp only at hSw
      go_simp
      try with_reducible rfl
    try simp only [Act.put, List.setIfInBounds_toArray, List.set_cons_zero, List.set_cons_succ]
    refine wpAnyH_ready (rs := [0, 3]) (by kernel_rfl) (by simp) ?_
    refine AllReadyH.cons rfl (fun K hK => ?_) (AllReadyH.cons rfl (fun K hK => ?_) AllReadyH.nil)
    · go_simp
      have KA : RowAt w ⟨f0, f1, f2, f3, f4, f5, f6, f7, f8, f9, f10⟩ w1.heap.size z0 ((w1.alloc (.cells (nums .u8 z0).toArray 5)).drew) :=
        ⟨heap_alloc_new w1 _, blk_alloc HX1.out _, below_drew (HB1.out.alloc HB1.out.size _), HZL.out, HZB.out, by omega⟩
      have hlay := KA.layS 0 (by decide) f0 (by have h5 : f0.size ≤ 100 := HS.out.1; show 0 + f0.size ≤ 512; omega)
      have hsz : ((w1.alloc (.cells (nums .u8 z0).toArray 5)).drew).heap.size = w1.heap.size + 1 := by simp
      rw [hsz] at hlay
      have z1 := KA.hd
      have y1 : ((w1.alloc (.cells (nums .u8 z0).toArray 5)).drew).cell? ⟨w.heap.size, 0, none⟩ = some (.string f0) := (blk_cell KA.hd 0).trans rfl
      have y2 := (Lib.bytesWorld_old ((w1.alloc (.cells (nums .u8 z0).toArray 5)).drew) 5 f0 ⟨w.heap.size, 0, none⟩ (by show w.heap.size < _; rw [hsz]; omega)).trans y1
      refine hK.out _ _ y1 (fun hHeld => ?_)
      clear hK K z1
      try simp only [Act.put, List.setIfInBounds_toArray, List.set_cons_zero, List.set_cons_succ]
      refine wpAnyH_ready (rs := [3]) (by kernel_rfl) (by simp) ?_
      refine AllReadyH.cons rfl (fun K hK => ?_) AllReadyH.nil
      go_simp
      refine hK.out _ _ y2 (fun hHeld => ?_)
      clear hK K
      try simp only [Act.put, List.setIfInBounds_toArray, List.set_cons_zero, List.set_cons_succ]
      refine wpAnyH_ready (rs := [4]) (by kernel_rfl) (by simp) ?_
      refine AllReadyH.cons rfl (fun K hK => ?_) AllReadyH.nil
      go_simp
      go_at_call 68
      refine hlay.mono ?_
      rintro e w2 ⟨rfl, hRK⟩
      refine hK.out _ _ ((blk_cell hRK.hd 0).trans rfl) (fun hHeld => ?_)
      clear hK K
      try simp only [Act.put, List.setIfInBounds_toArray, List.set_cons_zero, List.set_cons_succ]
      refine wpAnyH_take (i := 5) (v := ?_) rfl (by kernel_rfl) (by kernel_rfl) (by kernel_rfl) (fun _ _ _ h => h) (Or.inl ⟨by rfl, ?_⟩) (by assumption) ?_
      rotate_left
      · intro w hSw
        try dsimp only at hSw
        go_simp
        try with_reducible rfl
      try simp only [Act.put, List.setIfInBounds_toArray, List.set_cons_zero, List.set_cons_succ]
      refine wpAnyH_done (by kernel_rfl) ?_ _
      simp only [List.getElem_toArray, List.getElem_cons_succ, List.getElem_cons_zero, List.set_cons_zero, List.set_cons_succ]
      have RK := Aside0.mk hRK
      clear hRK hlay KA hsz y1 y2 y0
      go_wp2
      go_meet
      case rel => exact ⟨_, rfl, RK⟩
    · go_simp
      have hbs := Lib.bytesWorld_size w1.drew 5 f0
      have hbs2 : (Lib.bytesWorld w1.drew 5 f0).heap.size = w1.heap.size + 1 := hbs
      have hBB : Below w1.heap.size w1 (Lib.bytesWorld w1.drew 5 f0) := bytes_below (below_drew (Below.refl _ _)) (Nat.le_refl _) 5 f0
      have KA : RowAt w ⟨f0, f1, f2, f3, f4, f5, f6, f7, f8, f9, f10⟩ (Lib.bytesWorld w1.drew 5 f0).heap.size z0 ((Lib.bytesWorld w1.drew 5 f0).alloc (.cells (nums .u8 z0).toArray 5)) :=
        ⟨heap_alloc_new _ _, blk_alloc (blk_below HX1.out hBB) _, (below_step HB1.out hBB).alloc (by rw [hbs2]; omega) _, HZL.out, HZB.out, by rw [hbs2]; omega⟩
      have hlay := KA.lay 0 (by decide) (some ⟨w1.heap.size, 0, none⟩) (grownCap w1.drew f0.size 0 5) (bytesOf f0) (by
        have h5 : f0.size ≤ 100 := HS.out.1
        have := Kd.C_below (bytes_C (W := w1.drew) (s := f0) (by omega)) (below_alloc (Below.refl _ _) (.cells (nums .u8 z0).toArray 5))
        rw [bytesOf_length]
        exact this) (fun ad h => by cases h; simp only; rw [hbs2]; omega) (by have h5 : f0.size ≤ 100 := HS.out.1; rw [bytesOf_length]; show 0 + f0.size ≤ 512; omega) (byteOk_bytesOf f0)
      rw [bytesOf_length] at hlay
      rw [hbs2] at hlay
      have y1 : (Lib.bytesWorld w1.drew 5 f0).cell? ⟨w.heap.size, 0, none⟩ = some (.string f0) := (blk_cell (blk_below HX1.out hBB) 0).trans rfl
      have y2 : ((Lib.bytesWorld w1.drew 5 f0).alloc (.cells (nums .u8 z0).toArray 5)).cell? ⟨w.heap.size, 0, none⟩ = some (.string f0) := (blk_cell KA.hd 0).trans rfl
      refine hK.out _ _ y1 (fun hHeld => ?_)
      clear hK K
      try simp only [Act.put, List.setIfInBounds_toArray, List.set_cons_zero, List.set_cons_succ]
      refine wpAnyH_ready (rs := [0]) (by kernel_rfl) (by simp) ?_
      refine AllReadyH.cons rfl (fun K hK => ?_) AllReadyH.nil
      go_simp
      refine hK.out _ _ y2 (fun hHeld => ?_)
      clear hK K
      try simp only [Act.put, List.setIfInBounds_toArray, List.set_cons_zero, List.set_cons_succ]
      refine wpAnyH_ready (rs := [4]) (by kernel_rfl) (by simp) ?_
      refine AllReadyH.cons rfl (fun K hK => ?_) AllReadyH.nil
      go_simp
      go_at_call 68
      refine hlay.mono ?_
      rintro e w2 ⟨rfl, hRK⟩
      refine hK.out _ _ ((blk_cell hRK.hd 0).trans rfl) (fun hHeld => ?_)
      clear hK K
      try simp only [Act.put, List.setIfInBounds_toArray, List.set_cons_zero, List.set_cons_succ]
      refine wpAnyH_take (i := 5) (v := ?_) rfl (by kernel_rfl) (by kernel_rfl) (by kernel_rfl) (fun _ _ _ h => h) (Or.inl ⟨by rfl, ?_⟩) (by assumption) ?_
      rotate_left
      · intro w hSw
        try dsimp only at hSw
        go_simp
        try with_reducible rfl
      try simp only [Act.put, List.setIfInBounds_toArray, List.set_cons_zero, List.set_cons_succ]
      refine wpAnyH_done (by kernel_rfl) ?_ _
      simp only [List.getElem_toArray, List.getElem_cons_succ, List.getElem_cons_zero, List.set_cons_zero, List.set_cons_succ]
      have RK := Aside0.mk hRK
      clear hRK hlay KA y1 y2 y0 hbs hBB
      go_wp2
      go_meet
      case rel => exact ⟨_, rfl, RK⟩
  case rest =>
    obtain ⟨g, rfl, RK⟩ := hcut
    have x3 := (blk_cell RK.out.hd 3).trans (show _ = some (.int .i64 f3) from rfl)
    have c3 := RK.out.number 100 8 f3 (by decide) HH.out.2.1 (by rw [HN.out.1]; decide)
    go_wp2_with (fail)
    refine c3.mono ?_
    rintro e w3 ⟨rfl, hk⟩
    have R3 := Aside0.mk hk
    clear hk c3 x3 RK
    have x4 := (blk_cell R3.out.hd 4).trans (show _ = some (.int .i64 f4) from rfl)
    have c4 := R3.out.number 108 8 f4 (by decide) HH.out.2.2.1 (by rw [HN.out.2.1]; decide)
    go_wp2_with (fail)
    refine c4.mono ?_
    rintro e w4 ⟨rfl, hk⟩
    have R4 := Aside0.mk hk
    clear hk c4 x4 R3
    have x5 := (blk_cell R4.out.hd 5).trans (show _ = some (.int .i64 f5) from rfl)
    have c5 := R4.out.number 116 8 f5 (by decide) HH.out.2.2.2.1 (by rw [HN.out.2.2.1]; decide)
    go_wp2_with (fail)
    refine c5.mono ?_
    rintro e w5 ⟨rfl, hk⟩
    have R5 := Aside0.mk hk
    clear hk c5 x5 R4
    have x6 := (blk_cell R5.out.hd 6).trans (show _ = some (.int .i64 f6) from rfl)
    have c6 := R5.out.number 124 12 f6 (by decide) HH.out.2.2.2.2.1 (by rw [HN.out.2.2.2.1]; decide)
    go_wp2_with (fail)
    refine c6.mono ?_
    rintro e w6 ⟨rfl, hk⟩
    have R6 := Aside0.mk hk
    clear hk c6 x6 R5
    have x7 := (blk_cell R6.out.hd 7).trans (show _ = some (.int .i64 f7) from rfl)
    have c7 := R6.out.number 136 12 f7 (by decide) HH.out.2.2.2.2.2.1 (by rw [HN.out.2.2.2.2.1]; decide)
    go_wp2_with (fail)
    refine c7.mono ?_
    rintro e w7 ⟨rfl, hk⟩
    have R7 := Aside0.mk hk
    clear hk c7 x7 R6
    have x8 := (blk_cell R7.out.hd 8).trans (show _ = some (.int .u8 f8) from rfl)
    obtain ⟨u, xg, xf⟩ := R7.out.cell156
    have R8 := Aside0.mk (R7.out.set156 f8 HH.out.1)
    clear R7
    go_upto_region 11 with (fail)
    obtain ⟨W8, hW8⟩ : ∃ W, W = w7.setCell ⟨g, 156, none⟩ (.int .u8 f8) := ⟨_, rfl⟩
    rw [← hW8] at R8 ⊢
    clear hW8 xg xf x8
    have x2 := (blk_cell R8.out.hd 2).trans (show _ = some (.string f2) from rfl)
    have c8 := R8.out.layS 157 (by decide) f2 (by have h5 : f2.size ≤ 100 := HS.out.2.1; show 157 + f2.size ≤ 512; omega)
    go_wp2_with (fail)
    refine c8.mono ?_
    rintro e w9 ⟨rfl, hk⟩
    have R9 := Aside0.mk hk
    clear hk c8 x2 R8
    have c9 := R9.out.layB 257 (by decide) [117, 115, 116, 97, 114, 0, 48, 48] (by decide) (by intro c hc; simp at hc; omega)
    go_wp2_with (fail)
    refine c9.mono ?_
    rintro e w10 ⟨rfl, hk⟩
    have R10 := Aside0.mk hk
    clear hk c9 R9
    have x8 := (blk_cell R10.out.hd 8).trans (show _ = some (.int .u8 f8) from rfl)
    by_cases c77 : f8 = 77
    · subst c77
      have c77 : (77 : Int) = 77 := rfl
      have c77b : decide ((77 : Int) = 77) = true := decide_eq_true c77
      have x9 := (blk_cell R10.out.hd 9).trans (show _ = some (.int .i64 f9) from rfl)
      have e9 := HN.out.2.2.2.2.2 c77
      have c9 := R10.out.number 369 12 f9 (by decide) HH.out.2.2.2.2.2.2.1 (by rw [e9.1]; decide)
      go_wp2_with (fail)
      refine c9.mono ?_
      rintro e w11 ⟨rfl, hk⟩
      have R11 := Aside0.mk hk
      clear hk c9 x9 x8 R10
      have x10 := (blk_cell R11.out.hd 10).trans (show _ = some (.int .i64 f10) from rfl)
      have c10 := R11.out.number 483 12 f10 (by decide) HH.out.2.2.2.2.2.2.2 (by rw [e9.2]; decide)
      go_wp2_with (fail)
      refine c10.mono ?_
      rintro e w12 ⟨rfl, hk⟩
      have R12 := Aside0.mk hk
      clear hk c10 x10 R11
      go_upto_region 17 with (fail)
      have cs := R12.out.sum
      go_wp2_with (fail)
      refine cs.mono ?_
      rintro e wa ⟨rfl, hk⟩
      have RA := Aside0.mk hk
      clear hk cs
      have cg := RA.out.sign
      go_wp2_with (fail)
      refine cg.mono ?_
      rintro e wb ⟨AS, cS, rfl, hk, hlast⟩
      have RB := Aside0.mk hk
      clear hk cg
      go_wp2_with (fail)
      refine hlast.mono ?_
      rintro e wd ⟨rfl, hk⟩
      have RD := Aside0.mk hk
      clear hk hlast
      go_wp2
      go_ret2
      refine ⟨_, rfl, ?_, RD.out.bel⟩
      have hfin := HRR.out
      unfold refBlk rb3 rb2 rb1 rb0 at hfin
      simp only at hfin
      rw [HZ0.out, if_pos trivial] at hfin
      have hR := R_of_block (base := w.heap.size) RD.out.row (by have := RD.out.gt; omega) (by rw [RD.out.len]; decide)
      rw [RD.out.len] at hR
      rw [← hfin]
      exact hR
    · have c77b : decide (f8 = 77) = false := decide_eq_false c77
      have x1 := (blk_cell R10.out.hd 1).trans (show _ = some (.string f1) from rfl)
      have cw := R10.out.layS 345 (by decide) f1 (by have h5 : f1.size ≤ 155 := HS.out.2.2 c77; show 345 + f1.size ≤ 512; omega)
      go_wp2_with (fail)
      refine cw.mono ?_
      rintro e w11 ⟨rfl, hk⟩
      have R11 := Aside0.mk hk
      clear hk cw x1 x8 R10
      go_upto_region 17 with (fail)
      have cs := R11.out.sum
      go_wp2_with (fail)
      refine cs.mono ?_
      rintro e wa ⟨rfl, hk⟩
      have RA := Aside0.mk hk
      clear hk cs
      have cg := RA.out.sign
      go_wp2_with (fail)
      refine cg.mono ?_
      rintro e wb ⟨AS, cS, rfl, hk, hlast⟩
      have RB := Aside0.mk hk
      clear hk cg
      go_wp2_with (fail)
      refine hlast.mono ?_
      rintro e wd ⟨rfl, hk⟩
      have RD := Aside0.mk hk
      clear hk hlast
      go_wp2
      go_ret2
      refine ⟨_, rfl, ?_, RD.out.bel⟩
      have hfin := HRR.out
      unfold refBlk rb3 rb2 rb1 rb0 at hfin
      simp only at hfin
      rw [HZ0.out, if_neg c77] at hfin
      have hR := R_of_block (base := w.heap.size) RD.out.row (by have := RD.out.gt; omega) (by rw [RD.out.len]; decide)
      rw [RD.out.len] at hR
      rw [← hfin]
      exact hR
theorem reelkeeperref04_Put.no (k : Nat) (h : Hd) (w : World) (hm : reelkeeperref04_May.f k h.f0 h.f1 h.f2 h.f3 h.f4 h.f5 h.f6 h.f7 h.f8 h.f9 h.f10 = some false) :
    Calls Try.prog 35 #[.agg (hdCells h).toArray] w fun e w' => e = .returned (.tuple #[.slice none 0 0, .bool false]) ∧ Below w.heap.size w w' := by
  have hmay : ∀ W, Calls Try.prog 67 #[.agg (hdCells h).toArray] W fun e w' => e = .returned (.bool false) ∧ Below W.heap.size W w' := fun W => reelkeeperref04_May.calls k h.f0 h.f1 h.f2 h.f3 h.f4 h.f5 h.f6 h.f7 h.f8 h.f9 h.f10 false W hm
  have HMAY := Aside0.mk hmay
  have HB0 := Aside0.mk (below_alloc (Below.refl w.heap.size w) (.cells (hdCells h).toArray 37))
  obtain ⟨f0, f1, f2, f3, f4, f5, f6, f7, f8, f9, f10⟩ := h
  simp only [hdCells] at HMAY HB0 ⊢
  clear hmay hm
  go_enter Try.func35, Try.ntmps35
  go_wp2_with (first | (go_at_call 67; refine (HMAY.out _).mono ?_; rintro e w1 ⟨rfl, hb1⟩))
  go_ret2
  exact ⟨rfl, below_step HB0.out hb1⟩
def reelkeeperref04_Put.f (k : Nat) (a0 a1 a2 : ByteArray) (a3 a4 a5 a6 a7 a8 a9 a10 : Int) : Option (List Int × Bool) :=
  if hdIn ⟨a0, a1, a2, a3, a4, a5, a6, a7, a8, a9, a10⟩ then (reelkeeperref04_May.f k a0 a1 a2 a3 a4 a5 a6 a7 a8 a9 a10).bind fun m => if m = true then (if hdOk ⟨a0, a1, a2, a3, a4, a5, a6, a7, a8, a9, a10⟩ = true then some (refBlk ⟨a0, a1, a2, a3, a4, a5, a6, a7, a8, a9, a10⟩, true) else none) else some ([], false) else none
theorem reelkeeperref04_Put.mono : ∀ a0 a1 a2 a3 a4 a5 a6 a7 a8 a9 a10 k, LeO (reelkeeperref04_Put.f k a0 a1 a2 a3 a4 a5 a6 a7 a8 a9 a10) (reelkeeperref04_Put.f (k + 1) a0 a1 a2 a3 a4 a5 a6 a7 a8 a9 a10) := by
  intro a0 a1 a2 a3 a4 a5 a6 a7 a8 a9 a10 k
  unfold reelkeeperref04_Put.f
  exact LeO.ite (LeO.bind (reelkeeperref04_May.mono _ _ _ _ _ _ _ _ _ _ _ _) (fun _ => LeO.refl _)) (LeO.refl _)
theorem reelkeeperref04_Put.calls (k : Nat) (a0_0 a0_1 a0_2 : ByteArray) (a0_3 a0_4 a0_5 a0_6 a0_7 a0_8 a0_9 a0_10 : Int) (r1 : List Int) (r2 : Bool) (w : World) (h : reelkeeperref04_Put.f k a0_0 a0_1 a0_2 a0_3 a0_4 a0_5 a0_6 a0_7 a0_8 a0_9 a0_10 = some (r1, r2)) :
    Calls Try.prog 35 #[.agg #[.string a0_0, .string a0_1, .string a0_2, .int .i64 a0_3, .int .i64 a0_4, .int .i64 a0_5, .int .i64 a0_6, .int .i64 a0_7, .int .u8 a0_8, .int .i64 a0_9, .int .i64 a0_10]] w fun e w' => ∃ v0_ : Value, e = .returned (.tuple #[v0_, .bool r2]) ∧ Kd.R (Kd.int .u8) 5 w' w.heap.size (fun _ => True) v0_ r1 ∧ Below w.heap.size w w' := by
  unfold reelkeeperref04_Put.f at h
  by_cases hh : hdIn ⟨a0_0, a0_1, a0_2, a0_3, a0_4, a0_5, a0_6, a0_7, a0_8, a0_9, a0_10⟩
  · rw [if_pos hh] at h
    obtain ⟨m, hm, h⟩ := Option.bind_eq_some_iff.1 h
    cases m with
    | false =>
      rw [if_neg (by decide)] at h
      obtain ⟨rfl, rfl⟩ := Prod.mk.inj (Option.some.inj h)
      refine (reelkeeperref04_Put.no k ⟨a0_0, a0_1, a0_2, a0_3, a0_4, a0_5, a0_6, a0_7, a0_8, a0_9, a0_10⟩ w hm).mono ?_
      rintro e w' ⟨rfl, hb⟩
      exact ⟨_, rfl, Kd.R_nil _ _ _ _ _, hb⟩
    | true =>
      rw [if_pos rfl] at h
      by_cases hok : hdOk ⟨a0_0, a0_1, a0_2, a0_3, a0_4, a0_5, a0_6, a0_7, a0_8, a0_9, a0_10⟩ = true
      · rw [if_pos hok] at h
        obtain ⟨rfl, rfl⟩ := Prod.mk.inj (Option.some.inj h)
        exact reelkeeperref04_Put.ok k _ w hh hok hm
      · rw [if_neg hok] at h
        cases h
  · rw [if_neg hh] at h
    cases h

end Go.Proofs.Ytekfgmpldgoglaa.X
