import Derived.Test.YtpedagpcblnnhaaGreatXK
import Derived.Test.YtpedagpcblnnhaaGreatYAll
import Derived.Laws.EntriesVeiled
import Derived.WalkSpells
namespace Go.Proofs.YtpedagpcblnnhaaGreat.X
open Go.RowKit Go.Proofs.YtpedagpcblnnhaaGreatW.PrintWords Go.Proofs.YtpedagpcblnnhaaGreatW.PrintLast Go.Proofs.YtpedagpcblnnhaaGreatW.PrintMore
attribute [local go_sem] max2_int min2_int max_two min_two
set_option linter.unusedVariables false
set_option linter.unusedSimpArgs false
open Go.Proofs.YtpedagpcblnnhaaGreatY
abbrev kRow : Kd (List Int) := Kd.slice 5 (Kd.int .u8)
set_option maxHeartbeats 1600000 in
set_option maxRecDepth 100000 in
theorem slices_Grow.at_ (n : Nat) (hn : n ≤ 1000000) (w : World) :
    Calls Tryz.prog 34 #[.slice none 0 0, .int .i64 n] w fun e w' => ∃ A c, e = .returned (.slice A 0 c) ∧ Kd.R kRow 43 w' w.heap.size (fun _ => True) (.slice A 0 c) [] ∧ Below w.heap.size w w' := by
  rcases Nat.eq_zero_or_pos n with rfl | hp
  · go_enter Tryz.func34, Tryz.ntmps34
    go_wp2
    go_ret
    exact ⟨none, 0, rfl, Kd.R_nil _ _ _ _ _, Below.refl _ _⟩
  · have h1 : decide ((n : Int) < 0) = false := decide_eq_false (by omega)
    have h2 : decide ((n : Int) > 0) = true := decide_eq_true (by omega)
    have h3 : decide (0 < n) = true := decide_eq_true hp
    clear hp
    go_enter Tryz.func34, Tryz.ntmps34
    go_wp2_with (at_builtin; refine Kd.R_append_zeros kRow (w0 := w) w.heap.size rfl (.tmp 20) (.tmp 21) 23 3 43 (.slice none 0 0) 24 rfl Tryz.underlying23 Tryz.underlying3 info43 rfl (by decide) (by decide) _ [] [] n (fun _ => True) rfl rfl ⟨_, rfl, Kd.R_nil _ _ _ _ _⟩ (fun _ _ => trivial) (Kd.R_nil _ _ _ _ _) (by omega) (Below.refl _ _) (Nat.le_refl _) (by simp; omega) ?_; intro v1 w1 ho hb hg hat; obtain ⟨A1, c1, rfl⟩ := Kd.R_slice ho; clear hg hat)
    go_ret
    exact ⟨A1, c1, rfl, Kd.R_take ho (m := 0) (Nat.zero_le _), hb⟩
def rdR (xs : List (List Int)) (i : Nat) : List Int := xs.getD i []
theorem at_row {w : World} {A : Option Addr} {n : Nat} {xs : List (List Int)} (h : Kd.C (Kd.slice 5 (Kd.int .u8)) w A n xs) (i : Nat) (h1 : i < n) : ∃ ad A0 c0, A = some ad ∧ w.cell? (ad.add i) = some (.slice A0 (rdR xs i).length c0) ∧ (rdR xs i).length ≤ c0 ∧ (Kd.int .u8).C w A0 (rdR xs i).length (rdR xs i) := by
  obtain ⟨ad, c, e, _, hK, hc0⟩ := Kd.C_get h ([] : List Int) (i : Int) (by omega) (by omega)
  have hc : ∀ j u, c[j]? = some u → w.cell? (ad.add (i * 1 + j)) = some u := hc0
  obtain ⟨A0, c0, rfl, l0, g0⟩ := hK
  exact ⟨ad, A0, c0, e, by have hq := hc 0 _ rfl; rwa [Nat.mul_one, Nat.add_zero] at hq, l0, g0⟩
structure InRow (base : Nat) (w : World) (x : Option Addr × Nat × List (List Int)) : Prop where
  cap : x.2.2.length ≤ x.2.1
  row : ReadsRow (kRow.M w base (fun _ => True)) 1 w x.1 x.2.2.length x.2.2
theorem InRow.of_R {e base b : Nat} {ok : Nat → Prop} {w : World} {v : Value} {xs : List (List Int)} (h : Kd.R kRow e w base ok v xs) (hb : b ≤ base) : ∃ A c, v = .slice A xs.length c ∧ InRow b w (A, c, xs) := by
  obtain ⟨_, ho⟩ := h
  obtain ⟨A, c, hv, hl, hr⟩ := OwnRow.reads ho
  exact ⟨A, c, hv, hl, hr.imp_ (Below.refl _ _) (fun _ _ hp => kRow.M_lower hb (kRow.M_mono (fun _ _ => trivial) hp))⟩
theorem InRow.below {base : Nat} {w w' : World} {x : Option Addr × Nat × List (List Int)} (h : InRow base w x) (hb : Below w.heap.size w w') : InRow base w' x :=
  ⟨h.cap, h.row.imp_ hb (fun _ _ hp => Kd.M_below hp hb)⟩
def inV (x : Option Addr × Nat × List (List Int)) : Value := .slice x.1 x.2.2.length x.2.1
def totalL (xs : List (Option Addr × Nat × List (List Int))) : Nat := (xs.map (fun x => x.2.2.length)).sum
def flatL (xs : List (Option Addr × Nat × List (List Int))) : List (List Int) := (xs.map (fun x => x.2.2)).flatten
theorem totalL_flat (xs : List (Option Addr × Nat × List (List Int))) : (flatL xs).length = totalL xs := by
  unfold flatL totalL
  rw [List.length_flatten, List.map_map]
  rfl
theorem totalL_snoc (xs : List (Option Addr × Nat × List (List Int))) (x : Option Addr × Nat × List (List Int)) : totalL (xs ++ [x]) = totalL xs + x.2.2.length := by simp [totalL]
theorem flatL_snoc (xs : List (Option Addr × Nat × List (List Int))) (x : Option Addr × Nat × List (List Int)) : flatL (xs ++ [x]) = flatL xs ++ x.2.2 := by simp [flatL]
theorem totalL_take (xs : List (Option Addr × Nat × List (List Int))) (k : Nat) : totalL (xs.take k) ≤ totalL xs := by
  have := congrArg totalL (List.take_append_drop k xs)
  unfold totalL at this ⊢
  rw [List.map_append, List.sum_append] at this
  omega
set_option maxHeartbeats 1600000 in
set_option maxRecDepth 100000 in
theorem slices_Concat.at_ (base b : Nat) (xs : List (Option Addr × Nat × List (List Int))) (w : World) (hb : w.heap[b]? = some (.cells (xs.map inV).toArray 23 (0, 0))) (hxs : ∀ x ∈ xs, InRow base w x) (hl : totalL xs ≤ 100000) (hn : xs.length ≤ 1000) (hbase : base ≤ w.heap.size) :
    Calls Tryz.prog 26 #[.slice (some ⟨b, 0, none⟩) xs.length xs.length] w fun e w' => ∃ v, e = .returned v ∧ Kd.R kRow 43 w' base (fun _ => True) v (flatL xs) ∧ Below w.heap.size w w' := by
  have HB := Aside0.mk hb
  have HXS := Aside0.mk hxs
  have HBS := Aside0.mk hbase
  clear hb hxs hbase
  have hgrow := fun W => slices_Grow.at_ (totalL xs) (by omega) W
  obtain ⟨tot, htot⟩ : ∃ tot, totalL xs = tot := ⟨_, rfl⟩
  rw [htot] at hgrow hl
  have HTOT := Aside0.mk htot
  have HL := Aside0.mk hl
  clear htot
  go_enter Tryz.func26, Tryz.ntmps26
  go_wp2
  go_loop [3, 11] (fun v3 v11 => ∃ k : Nat, v11 = .int .i64 k ∧ k ≤ xs.length ∧ v3 = .int .i64 (totalL (xs.take k) : Nat)) (fun _ v11 => xs.length - (intOf v11).toNat)
  case atStart => exact ⟨0, rfl, Nat.zero_le _, rfl⟩
  case round =>
    obtain ⟨k, rfl, hk, rfl⟩ := hrel
    by_cases hlt : k < xs.length
    · have htk : totalL (xs.take (k + 1)) = totalL (xs.take k) + xs[k].2.2.length := by rw [List.take_succ_eq_append_getElem hlt, totalL_snoc]
      have htl := totalL_take xs (k + 1)
      have hcell : w.cell? ⟨b, k, none⟩ = some (inV xs[k]) := by rw [blk_cell HB.out k, List.getElem?_toArray, List.getElem?_map, List.getElem?_eq_getElem hlt]; rfl
      rw [HTOT.out] at htl
      generalize xs[k] = x at *
      obtain ⟨xa, xc, xl⟩ := x
      simp only [inV] at hcell htk
      obtain ⟨t, ht⟩ : ∃ t, totalL (xs.take k) = t := ⟨_, rfl⟩
      rw [ht] at htk ⊢
      have hb1 : t + xl.length ≤ 100000 := by omega
      have HTK := Aside0.mk htk
      have hlt2 : (k : Int) < (xs.length : Int) := by omega
      have hk0 : (0 : Int) ≤ (k : Int) := by omega
      have hnn : decide ((t : Int) + (xl.length : Int) < 0) = false := decide_eq_false (by omega)
      clear htk htl ht
      go_wp2
      go_round
      case rel => exact ⟨k + 1, by go_num, by omega, by rw [HTK.out]; go_num⟩
      case measure => simp [intOf]; omega
    · obtain rfl : k = xs.length := by omega
      have ht : totalL (xs.take xs.length) = tot := by rw [List.take_length]; exact HTOT.out
      rw [ht]
      clear ht
      go_wp2_with (first | (go_at_call 34; refine (hgrow _).mono ?_; rintro e w1 ⟨A1, c1, rfl, hR1, hb1⟩))
      have HR1 := Aside0.mk (Kd.R_lower (base' := base) hR1 HBS.out)
      have HB1 := Aside0.mk hb1
      have HO1 := Aside0.mk (Kd.R_base hR1)
      clear hR1 hb1 hgrow
      go_loopw [6, 27] (fun v6 v27 wr => ∃ k : Nat, v27 = .int .i64 k ∧ k ≤ xs.length ∧ (∃ A n c, v6 = .slice A n c) ∧ Aside0 (Kd.R kRow 43 wr base (fun _ => True) v6 (flatL (xs.take k))) ∧ Aside0 (∀ j, v6.ownBlock = some j → w.heap.size ≤ j) ∧ Aside0 (Below w.heap.size w wr)) (fun _ v27 _ => xs.length - (intOf v27).toNat)
      case atStart => exact ⟨0, rfl, Nat.zero_le _, ⟨_, _, _, rfl⟩, HR1, HO1, HB1⟩
      case round =>
        obtain ⟨k, rfl, hk, ⟨A6, n6, c6, rfl⟩, HR, HO, HBW⟩ := hrel
        clear HR1 HO1 HB1
        by_cases hlt : k < xs.length
        · have hcell : wr.cell? ⟨b, k, none⟩ = some (inV xs[k]) := by rw [blk_cell (blk_below HB.out HBW.out) k, List.getElem?_toArray, List.getElem?_map, List.getElem?_eq_getElem hlt]; rfl
          have hin := (HXS.out xs[k] (List.getElem_mem hlt))
          have htk : flatL (xs.take (k + 1)) = flatL (xs.take k) ++ xs[k].2.2 := by rw [List.take_succ_eq_append_getElem hlt, flatL_snoc]
          have htl := totalL_take xs (k + 1)
          rw [← totalL_flat, htk, List.length_append] at htl
          generalize xs[k] = x at *
          obtain ⟨xa, xc, xl⟩ := x
          simp only [inV] at hcell htk htl
          have hrow : ReadsRow (kRow.M wr base (fun k => k < w.heap.size)) 1 wr xa xl.length xl := hin.row.imp_ HBW.out (fun x cs hp => Kd.M_below (kRow.M_mono (fun _ hk => hk.2.2.1) (kRow.M_bound hp)) HBW.out)
          have HRW := Aside0.mk hrow
          have HTK := Aside0.mk htk
          have hbd : (flatL (xs.take k)).length + xl.length ≤ 100000 := by have := HTOT.out; have := HL.out; omega
          have HBD := Aside0.mk hbd
          have hlt2 : (k : Int) < (xs.length : Int) := by omega
          have hk0 : (0 : Int) ≤ (k : Int) := by omega
          have hbs : base ≤ wr.heap.size := Nat.le_trans HBS.out HBW.out.size
          have HKO := Aside0.mk (show ∀ j, j < w.heap.size → True ∧ some j ≠ (Value.slice A6 n6 c6).ownBlock from fun j hj => ⟨trivial, fun e => by have := HO.out j e.symm; omega⟩)
          clear hrow htk htl hin hbd
          go_wp2_with (at_builtin; refine Kd.R_append_rows kRow (w0 := w) base rfl (.tmp 31) (.tmp 32) 23 43 (.slice none 0 0) 24 rfl Tryz.underlying23 info43 rfl (by decide) (by decide) _ (flatL (xs.take k)) xl xa xl.length xc (fun _ => True) (fun k => k < w.heap.size) rfl rfl HR.out HRW.out (fun _ _ h => h) HKO.out (fun _ _ => trivial) (HBW.out.mono HBS.out) hbs (by have := HBD.out; omega) ?_; intro v1 w1 ho hb hg hat; obtain ⟨A7, c7, rfl⟩ := Kd.R_slice ho)
          go_roundw
          case rel =>
            refine ⟨k + 1, by go_num, by omega, ⟨_, _, _, rfl⟩, ⟨?_⟩, ⟨?_⟩, ⟨?_⟩⟩
            · rw [HTK.out]
              simpa using ho
            · intro j hj
              have hj2 : (Value.slice A7 (flatL (xs.take k) ++ xl).length c7).ownBlock = some j := by
                rw [← hj]; cases A7 <;> rfl
              rcases hat with hat | ⟨b', hb', hle⟩
              · rw [hat] at hj2; exact HO.out j hj2
              · rw [hb'] at hj2; injection hj2 with hj2; have := HBW.out.size; omega
            · exact HBW.out.grown hg HBW.out.size (fun j hj => HO.out j hj)
          case measure => simp [intOf]; omega
        · obtain rfl : k = xs.length := by omega
          have hR := HR.out
          rw [List.take_length] at hR
          have HRR := Aside0.mk hR
          clear hR
          go_wp2_with (fail)
          go_ret
          exact ⟨_, rfl, HRR.out, HBW.out⟩
end Go.Proofs.YtpedagpcblnnhaaGreat.X
