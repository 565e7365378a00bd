import Derived.Test.YtlecnodlnkanaaaXK
import Derived.Test.YtlecnodlnkanaaaXGblock
import Derived.Test.YtlecnodlnkanaaaXGnum
import Derived.Test.YtlecnodlnkanaaaXGslices
import Derived.Test.YtlecnodlnkanaaaYAll
import Derived.Test.YtlecnodlnkanaaaPGA
import Derived.Laws.EntriesVeiled
import Derived.WalkSpells
namespace Go.Proofs.Ytlecnodlnkanaaa.X
open Go.RowKit Go.Proofs.YtlecnodlnkanaaaW.PrintWords Go.Proofs.YtlecnodlnkanaaaW.PrintLast Go.Proofs.YtlecnodlnkanaaaW.PrintMore
attribute [local go_sem] max2_int min2_int max_two min_two
set_option linter.unusedVariables false
set_option linter.unusedSimpArgs false

open Go.Proofs.YtlecnodlnkanaaaY
set_option maxHeartbeats 1600000 in
set_option maxRecDepth 100000 in
theorem slices_GrowB.at_ (n : Nat) (hn : n ≤ 1000000) (w : World) :
    Calls Try.prog 158 #[.slice none 0 0, .int .i64 n] w fun e w' => ∃ A c, e = .returned (.slice A 0 c) ∧ Kd.R (Kd.int .u8) 5 w' w.heap.size (fun _ => True) (.slice A 0 c) [] ∧ Below w.heap.size w w' := by
  rcases Nat.eq_zero_or_pos n with rfl | hp
  · go_enter Try.func158, Try.ntmps158
    go_wp2
    go_ret
    exact ⟨none, 0, rfl, Kd.R_nil _ _ _ _ _, Below.refl _ _⟩
  · have h1 : decide ((n : Int) < 0) = false := decide_eq_false (by omega)
    have h2 : decide ((n : Int) > 0) = true := decide_eq_true (by omega)
    have h3 : decide (0 < n) = true := decide_eq_true hp
    clear hp
    go_enter Try.func158, Try.ntmps158
    go_wp2_with (at_builtin; refine Kd.R_append_zeros (Kd.int .u8) (w0 := w) w.heap.size rfl (.tmp 20) (.tmp 21) 42 3 5 (.int .u8 0) 1 rfl Try.underlying42 Try.underlying3 info5 rfl (by decide) (by decide) _ [] 0 n (fun _ => True) rfl rfl rfl (fun _ _ => trivial) (Kd.R_nil _ _ _ _ _) (by omega) (Below.refl _ _) (Nat.le_refl _) (by simp; omega) ?_; intro v1 w1 ho hb hg hat; obtain ⟨A1, c1, rfl⟩ := Kd.R_slice ho; clear hg hat)
    go_ret
    exact ⟨A1, c1, rfl, Kd.R_take ho (m := 0) (Nat.zero_le _), hb⟩
theorem flat_snoc (l : List (List Int)) {k : Nat} (h : k < l.length) : (l.take (k + 1)).flatten = (l.take k).flatten ++ rdR l k := by
  rw [List.take_succ_eq_append_getElem h, List.flatten_append]
  unfold rdR
  simp [List.getD_eq_getElem?_getD, List.getElem?_eq_getElem h]
theorem flat_le (l : List (List Int)) (k : Nat) : (l.take k).flatten.length ≤ l.flatten.length := by
  have := congrArg (fun x => x.flatten.length) (List.take_append_drop k l)
  simp only [List.flatten_append, List.length_append] at this
  omega
set_option maxHeartbeats 1600000 in
set_option maxRecDepth 100000 in
theorem slices_ConcatB.at_ (A : Option Addr) (c : Nat) (l : List (List Int)) (w : World) (hr : Kd.C kRow w A l.length l) (hc : l.length ≤ c) (hl : l.flatten.length ≤ 1000000) :
    Calls Try.prog 135 #[.slice A l.length c] w fun e w' => ∃ A2 c2, e = .returned (.slice A2 l.flatten.length c2) ∧ Kd.R (Kd.int .u8) 5 w' w.heap.size (fun _ => True) (.slice A2 l.flatten.length c2) l.flatten ∧ Below w.heap.size w w' := by
  have HR := Aside0.mk hr
  have hlm : l.length ≤ 9223372036854775807 := hr.2.1
  have hgrow := fun W => slices_GrowB.at_ l.flatten.length hl W
  clear hr
  obtain ⟨tot, htot⟩ : ∃ tot, l.flatten.length = tot := ⟨_, rfl⟩
  have HL := Aside0.mk hl
  have HTOT := Aside0.mk htot
  rw [htot] at hgrow hl
  clear htot
  go_enter Try.func135, Try.ntmps135
  go_wp2
  go_loop [3, 5, 11] (fun v3 v5 v11 => ∃ k : Nat, v11 = .int .i64 k ∧ k ≤ l.length ∧ v3 = .int .i64 ((l.take k).flatten.length : Nat)) (fun _ _ v11 => l.length - (intOf v11).toNat)
  case atStart => exact ⟨0, rfl, Nat.zero_le _, rfl⟩
  case round =>
    obtain ⟨k, rfl, hk, rfl⟩ := hrel
    by_cases hlt : k < l.length
    · have htk := congrArg List.length (flat_snoc l hlt)
      rw [List.length_append] at htk
      have htl := flat_le l (k + 1)
      rw [HTOT.out] at htl
      obtain ⟨ad, B, d, rfl, hx, _, _⟩ := at_row HR.out k hlt
      generalize hxr : rdR l k = x at hx htk
      clear hxr
      obtain ⟨t, ht⟩ : ∃ t, (l.take k).flatten.length = t := ⟨_, rfl⟩
      rw [ht] at htk ⊢
      have hb1 : t + x.length ≤ 1000000 := by omega
      have HTK := Aside0.mk htk
      have hlt2 : (k : Int) < (l.length : Int) := by omega
      have hk0 : (0 : Int) ≤ (k : Int) := by omega
      have hnn : decide ((t : Int) + (x.length : Int) < 0) = false := decide_eq_false (by omega)
      clear htk htl ht
      go_wp2
      go_round
      case rel => exact ⟨k + 1, by go_num, by omega, by rw [HTK.out]; go_num⟩
      case measure => simp [intOf]; omega
    · obtain rfl : k = l.length := by omega
      have ht : (l.take l.length).flatten.length = tot := by rw [List.take_length]; exact HTOT.out
      rw [ht]
      clear ht
      go_wp2_with (first | (go_at_call 158; refine (hgrow _).mono ?_; rintro e w1 ⟨A1, c1, rfl, hR1, hb1⟩))
      have HR1 := Aside0.mk hR1
      have HB1 := Aside0.mk hb1
      clear hR1 hb1 hgrow
      go_loopw [6, 8, 27] (fun v6 v8 v27 wr => ∃ k : Nat, v27 = .int .i64 k ∧ k ≤ l.length ∧ (∃ A n c, v6 = .slice A n c) ∧ Aside0 (Kd.R (Kd.int .u8) 5 wr w.heap.size (fun _ => True) v6 (l.take k).flatten) ∧ Aside0 (Below w.heap.size w wr)) (fun _ _ v27 _ => l.length - (intOf v27).toNat)
      case atStart => exact ⟨0, rfl, Nat.zero_le _, ⟨_, _, _, rfl⟩, HR1, HB1⟩
      case round =>
        obtain ⟨k, rfl, hk, ⟨A6, n6, c6, rfl⟩, HRR, HBW⟩ := hrel
        clear HR1 HB1
        by_cases hlt : k < l.length
        · obtain ⟨ad, B, d, rfl, hx, _, hrow⟩ := at_row (Kd.C_below HR.out HBW.out) k hlt
          have htk := flat_snoc l hlt
          have htl := flat_le l (k + 1)
          rw [htk, List.length_append] at htl
          have HTK := Aside0.mk htk
          generalize rdR l k = x at hx hrow htl HTK
          have HROW := Aside0.mk hrow
          have HBD := Aside0.mk (show (l.take k).flatten.length + x.length ≤ 1000000 by have := HL.out; omega)
          have hlt2 : (k : Int) < (l.length : Int) := by omega
          have hk0 : (0 : Int) ≤ (k : Int) := by omega
          clear hrow htk htl
          go_wp2_with (at_builtin; refine Kd.R_append_row (Value.int .u8) (0 : Int) (w0 := w) w.heap.size rfl (.tmp 31) (.tmp 32) 42 5 (.int .u8 0) 1 rfl Try.underlying42 info5 rfl (by decide) _ (l.take k).flatten x B x.length d (fun _ => True) rfl rfl (fun _ _ => trivial) HRR.out HROW.out HBW.out HBW.out.size (by have := HBD.out; omega) ?_; intro v1 w1 ho hb hg hat; obtain ⟨A7, c7, rfl⟩ := Kd.R_slice ho; clear hg hat)
          have HO := Aside0.mk (show Kd.R (Kd.int .u8) 5 w1 w.heap.size (fun _ => True) _ _ from ho)
          have HB := Aside0.mk hb
          clear ho hb
          go_roundw
          case rel => exact ⟨k + 1, by go_num, by omega, ⟨_, _, _, rfl⟩, ⟨by rw [HTK.out]; simpa using HO.out⟩, HB⟩
          case measure => simp [intOf]; omega
        · obtain rfl : k = l.length := by omega
          have hR := HRR.out
          rw [List.take_length] at hR
          obtain ⟨A9, c9, e9⟩ := Kd.R_slice hR
          injection e9 with e91 e92 e93
          subst e91 e93 e92
          have HRR2 := Aside0.mk hR
          clear hR
          go_wp2_with (fail)
          go_ret
          exact ⟨A6, c6, rfl, HRR2.out, HBW.out⟩
/-- The rows from the m-th on. -/
theorem rows_drop {w : World} {A : Option Addr} {l : List (List Int)} (c : Nat) (h : Kd.C kRow w A l.length l) (hc : l.length ≤ c) (m : Nat) (hm : m ≤ l.length) :
    ∃ A2 c2, (∀ W, (Instr.slice 30 (.slice A l.length c) (some (.int .i64 (m : Int))) none none).run Try.prog W = .ok (.slice A2 (l.drop m).length c2) W) ∧ Kd.C kRow w A2 (l.drop m).length (l.drop m) ∧ (l.drop m).length ≤ c2 := by
  obtain ⟨i0, hi0, _, hsz, _⟩ := info_parts info42
  have hcut := cut_from (P := Try.prog) 30 42 .i64 Try.underlying30 hi0 1 hsz A l.length c (m : Int) (by omega) (by omega)
  have hC := Kd.C_drop h hm hc
  simp only [Int.toNat_natCast] at hcut
  refine ⟨_, c - m, ?_, hC, ?_⟩
  · rw [List.length_drop]; exact hcut
  · rw [List.length_drop]; omega
/-- The first m rows. -/
theorem rows_take {w : World} {A : Option Addr} {l : List (List Int)} (c : Nat) (h : Kd.C kRow w A l.length l) (hc : l.length ≤ c) (m : Nat) (hm : m ≤ l.length) :
    (∀ W, (Instr.slice 30 (.slice A l.length c) none (some (.int .i64 (m : Int))) none).run Try.prog W = .ok (.slice A (l.take m).length c) W) ∧ Kd.C kRow w A (l.take m).length (l.take m) ∧ (l.take m).length ≤ c := by
  obtain ⟨i0, hi0, _, hsz, _⟩ := info_parts info42
  have hcut := cut_to (P := Try.prog) 30 42 .i64 Try.underlying30 hi0 A l.length c (m : Int) (by omega) (by omega) hc
  have hC := Kd.C_take h hm
  simp only [Int.toNat_natCast] at hcut
  have hl : (l.take m).length = m := by rw [List.length_take]; omega
  refine ⟨?_, hC, ?_⟩
  · rw [hl]; exact hcut
  · rw [hl]; omega
/-- The rows from lo to hi. -/
theorem rows_mid {w : World} {A : Option Addr} {l : List (List Int)} (c : Nat) (h : Kd.C kRow w A l.length l) (hc : l.length ≤ c) (lo hi : Nat) (h1 : lo ≤ hi) (h2 : hi ≤ l.length) :
    ∃ A2 c2, (∀ W, (Instr.slice 30 (.slice A l.length c) (some (.int .i64 (lo : Int))) (some (.int .i64 (hi : Int))) none).run Try.prog W = .ok (.slice A2 ((l.take hi).drop lo).length c2) W) ∧ Kd.C kRow w A2 ((l.take hi).drop lo).length ((l.take hi).drop lo) ∧ ((l.take hi).drop lo).length ≤ c2 := by
  obtain ⟨i0, hi0, _, hsz, _⟩ := info_parts info42
  have hcut := cut_mid (P := Try.prog) 30 42 .i64 .i64 Try.underlying30 hi0 1 hsz A l.length c (lo : Int) (hi : Int) (by omega) (by omega) (by omega) hc
  have hC := Kd.C_mid h h1 h2 hc
  simp only [Int.toNat_natCast] at hcut
  have hl : ((l.take hi).drop lo).length = hi - lo := by rw [List.length_drop, List.length_take]; omega
  refine ⟨_, c - lo, ?_, hC, ?_⟩
  · rw [hl]; exact hcut
  · rw [hl]; omega
end Go.Proofs.Ytlecnodlnkanaaa.X
namespace Go.Proofs.Ytlecnodlnkanaaa.X
open Go.RowKit Go.Proofs.YtlecnodlnkanaaaW.PrintWords Go.Proofs.YtlecnodlnkanaaaW.PrintLast Go.Proofs.YtlecnodlnkanaaaW.PrintMore
attribute [local go_sem] max2_int min2_int max_two min_two
set_option linter.unusedVariables false
set_option linter.unusedSimpArgs false

set_option maxHeartbeats 1000000 in
set_option maxRecDepth 100000 in
theorem block_joined.at_ (A : Option Addr) (c : Nat) (l : List (List Int)) (w : World) (hr : Kd.C kRow w A l.length l) (hc : l.length ≤ c) (hl : l.flatten.length ≤ 1000000) :
    Calls Try.prog 85 #[.slice A l.length c] w fun e w' => e = .returned (.string (strOfNums l.flatten)) ∧ Below w.heap.size w w' := by
  have hcat := slices_ConcatB.at_ A c l w hr hc hl
  clear hr hl
  generalize l.flatten = fl at hcat
  go_enter Try.func85, Try.ntmps85
  go_wp2_with (first | (go_at_call 135; refine hcat.mono ?_; rintro e w1 ⟨A2, c2, rfl, hR, hB⟩; have hstr := Kd.C_string (P := Try.prog) (src := 42) (dst := 9) (c := c2) Try.underlying42 Try.underlying5 Try.underlying9 (Kd.R_reads' hR).2.2))
  go_ret
  exact ⟨rfl, hB⟩
end Go.Proofs.Ytlecnodlnkanaaa.X
namespace Go.Proofs.Ytlecnodlnkanaaa.X
open Go.RowKit Go.Proofs.YtlecnodlnkanaaaW.PrintWords Go.Proofs.YtlecnodlnkanaaaW.PrintLast Go.Proofs.YtlecnodlnkanaaaW.PrintMore
attribute [local go_sem] max2_int min2_int max_two min_two
set_option linter.unusedVariables false
set_option linter.unusedSimpArgs false

set_option maxHeartbeats 1000000 in
set_option maxRecDepth 100000 in
theorem block_Text.at_ (A : Option Addr) (c : Nat) (l : List (List Int)) (n : Nat) (w : World) (hr : Kd.C kRow w A l.length l) (hc : l.length ≤ c) (hl : l.length ≤ 1000) (hn : n ≤ 500000) :
    Calls Try.prog 37 #[.slice A l.length c, .int .i64 n] w fun e w' => e = .returned (.tuple #[.string (textL l n).1, .bool (textL l n).2]) ∧ Below w.heap.size w w' := by
  have hmay := fun W hC => block_May.calls A c l _ W hC hc rfl
  have hmany := fun W => block_Many.calls (n : Int) _ W (manyBlk_f (n := n) (by omega))
  have HR := Aside0.mk hr
  have hlm : l.length ≤ 1000 := hl
  clear hr
  have e1 : textL l n = if blocksOk l = false ∨ manyB n ≠ l.length then (⟨#[]⟩, false) else ((strOfNums l.flatten).extract 0 n, true) := by
    unfold textL
    by_cases c : blocksOk l = false ∨ manyB n ≠ l.length
    · rw [if_pos c, if_pos (by rw [Int.toNat_natCast]; exact .inr c)]
    · rw [if_neg c, if_neg (by rw [Int.toNat_natCast]; rintro (h | h); omega; exact c h), Int.toNat_natCast]
  rw [e1]
  clear e1
  cases hb : blocksOk l with
  | false =>
    rw [if_pos (.inl rfl)]
    rw [hb] at hmay
    clear hb
    go_enter Try.func37, Try.ntmps37
    go_wp2_with (first | (go_at_call 38; refine (hmay _ HR.out).mono ?_; rintro e w1 ⟨rfl, ⟨nd, rfl⟩⟩))
    go_ret2
    exact ⟨rfl, pw_below_drewN (Below.refl _ _) _⟩
  | true =>
    rw [hb] at hmay
    have hfl : l.flatten.length = 512 * l.length := flat_blocks hb
    clear hb
    by_cases hm : manyB n = l.length
    · rw [if_neg (by rintro (h | h); cases h; exact h hm)]
      have hle : n ≤ (strOfNums l.flatten).size := by rw [strOfNums_size, hfl, ← hm]; unfold manyB; omega
      have hjo := fun W hC => block_joined.at_ A c l W hC hc (by omega)
      generalize hstr : strOfNums l.flatten = s at hle hjo
      have b1 : ((manyB n : Int) == (l.length : Int)) = true := beq_iff_eq.2 (by omega)
      have b2 : ((manyB n : Int) != (l.length : Int)) = false := by simp only [bne, b1]; rfl
      have hle2 : (n : Int) ≤ (s.size : Int) := by omega
      generalize hmm : manyB n = m at hmany b1 b2
      clear hm hmm hstr hfl
      go_enter Try.func37, Try.ntmps37
      go_wp2_with (first | (go_at_call 38; refine (hmay _ HR.out).mono ?_; rintro e w1 ⟨rfl, ⟨nd, rfl⟩⟩) | (go_at_call 69; refine (hmany _).mono ?_; rintro e w1 ⟨rfl, ⟨nd2, rfl⟩⟩) | (go_at_call 85; refine (hjo _ (by repeat (first | exact HR.out | apply Kd.C_drewN))).mono ?_; rintro e w3 ⟨rfl, hB⟩))
      go_ret2
      refine ⟨by simp, ?_⟩
      exact below_then (by repeat (first | exact Below.refl _ _ | apply pw_below_drewN)) (by simp) hB
    · rw [if_pos (.inr hm)]
      have b1 : ((manyB n : Int) == (l.length : Int)) = false := beq_eq_false_iff_ne.2 (by omega)
      have b2 : ((manyB n : Int) != (l.length : Int)) = true := by simp only [bne, b1]; rfl
      generalize hmm : manyB n = m at hmany b1 b2
      clear hm hmm hfl
      go_enter Try.func37, Try.ntmps37
      go_wp2_with (first | (go_at_call 38; refine (hmay _ HR.out).mono ?_; rintro e w1 ⟨rfl, ⟨nd, rfl⟩⟩) | (go_at_call 69; refine (hmany _).mono ?_; rintro e w1 ⟨rfl, ⟨nd2, rfl⟩⟩))
      go_ret2
      exact ⟨rfl, by repeat (first | exact Below.refl _ _ | apply pw_below_drewN)⟩

end Go.Proofs.Ytlecnodlnkanaaa.X
