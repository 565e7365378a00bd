import Derived.Test.YtddjnicmpgbcgaaXK
import Derived.Laws.BitsLemmas
import Derived.Laws.EntriesVeiled
import Derived.WalkSpells
namespace Go.Proofs.Ytddjnicmpgbcgaa.X
open Go.RowKit Go.Proofs.YtddjnicmpgbcgaaW.PrintWords Go.Proofs.YtddjnicmpgbcgaaW.PrintLast Go.Proofs.YtddjnicmpgbcgaaW.PrintMore
attribute [local go_sem] max2_int min2_int max_two min_two max_three min_three max_four min_four
set_option linter.unusedVariables false
set_option linter.unusedSimpArgs false

theorem and7 (x : Int) (hx : 0 ≤ x) (hx2 : x ≤ 9223372036854775807) : bits .and .i64 x 7 = x % 8 := by
  have h := bits_mask .i64 63 (by decide) (fun n h0 h1 => by rw [IntKind.wrap_i64]; omega) 3 (by decide) x hx (by omega)
  simpa using h
set_option maxHeartbeats 1000000 in
theorem num_Octal1.at_ (b : Nat) (x : Int) (hx : 0 ≤ x) (hx2 : x ≤ 9223372036854775807) (W : World) (hb : W.heap[b]? = some (.cells #[.int .i64 x] 3 (0, 0))) :
    Calls Try.prog 113 #[.pointer (some ⟨b, 0, none⟩)] W fun e w' => e = .returned (.int .u8 (48 + x % 8)) ∧ W.setCell ⟨b, 0, none⟩ (.int .i64 (x / 8)) = w' := by
  have hc := blk_cell hb 0
  simp only [List.size_toArray, List.length_cons, List.length_nil, Nat.zero_add, Nat.lt_one_iff, getElem?_pos, List.getElem_toArray, List.getElem_cons_zero] at hc
  have hf := blk_frozen hb 0
  have h7 := and7 x hx hx2
  have hm : 0 ≤ x % 8 ∧ x % 8 < 8 := by omega
  clear hb
  go_enter Try.func113, Try.ntmps113
  go_wp2
  go_ret
  exact ⟨rfl, rfl⟩
def octL : Nat → Nat → List Int
  | _, 0 => []
  | n, d + 1 => octL (n / 8) d ++ [((48 + n % 8 : Nat) : Int)]
theorem octL_length : ∀ (d n : Nat), (octL n d).length = d
  | 0, _ => rfl
  | d + 1, n => by rw [octL, List.length_append, octL_length d]; rfl
theorem octL_cons : ∀ (d n : Nat), octL n (d + 1) = ((48 + (n / 8 ^ d) % 8 : Nat) : Int) :: octL n d
  | 0, n => by simp [octL]
  | d + 1, n => by
    rw [octL, octL_cons d (n / 8), octL, List.cons_append]
    congr 3
    rw [Nat.div_div_eq_div_mul, ← Nat.pow_succ']
/-- Have so many digits room for a number? -/
def octOk (n d : Int) : Bool := decide (0 ≤ n) && (decide (1 ≤ d) && (decide (d ≤ 20) && decide (n.toNat / 8 ^ d.toNat = 0)))
def num_Octal.f (a0 a1 : Int) : Option (ByteArray × Bool) := if 9223372036854775807 < a0 then none else some (if octOk a0 a1 = true then (strOfNums (octL a0.toNat a1.toNat), true) else (⟨#[]⟩, false))
set_option maxHeartbeats 4000000 in
set_option maxRecDepth 100000 in
theorem num_Octal.calls (a0 a1 : Int) (r : ByteArray × Bool) (w : World) (h : num_Octal.f a0 a1 = some r) :
    Calls Try.prog 104 #[.int .i64 a0, .int .i64 a1] w fun e w' => e = .returned (.tuple #[.string r.1, .bool r.2]) ∧ Below w.heap.size w w' := by
  unfold num_Octal.f at h
  by_cases hm : 9223372036854775807 < a0
  · rw [if_pos hm] at h
    cases h
  rw [if_neg hm] at h
  have hr := Option.some.inj h
  clear h
  by_cases c1 : a0 < 0
  · rw [if_neg (by unfold octOk; rw [decide_eq_false (by omega)]; simp)] at hr
    subst hr
    have c1b := decide_eq_true c1
    clear c1
    go_enter Try.func104, Try.ntmps104
    go_wp2
    go_ret2
    exact ⟨rfl, Below.refl _ _⟩
  by_cases c2 : a1 < 1
  · rw [if_neg (by unfold octOk; rw [decide_eq_false (show ¬ 1 ≤ a1 by omega)]; simp)] at hr
    subst hr
    have c1b := decide_eq_false c1
    have c2b := decide_eq_true c2
    clear c1 c2
    go_enter Try.func104, Try.ntmps104
    go_wp2
    go_ret2
    exact ⟨rfl, Below.refl _ _⟩
  by_cases c3 : a1 > 20
  · rw [if_neg (by unfold octOk; rw [decide_eq_false (show ¬ a1 ≤ 20 by omega)]; simp)] at hr
    subst hr
    have c1b := decide_eq_false c1
    have c2b := decide_eq_false c2
    have c3b := decide_eq_true c3
    clear c1 c2 c3
    go_enter Try.func104, Try.ntmps104
    go_wp2
    go_ret2
    exact ⟨rfl, Below.refl _ _⟩
  obtain ⟨n, rfl⟩ := Int.eq_ofNat_of_zero_le (show 0 ≤ a0 by omega)
  obtain ⟨d, rfl⟩ := Int.eq_ofNat_of_zero_le (show 0 ≤ a1 by omega)
  have hd : 1 ≤ d ∧ d ≤ 20 := by omega
  have c1b : decide ((n : Int) < 0) = false := decide_eq_false c1
  have c2b : decide ((d : Int) < 1) = false := decide_eq_false c2
  have c3b : decide ((d : Int) > 20) = false := decide_eq_false c3
  have hn9 : (n : Int) ≤ 9223372036854775807 := by omega
  have hr2 : (if n / 8 ^ d = 0 then (strOfNums (octL n d), true) else (⟨#[]⟩, false)) = r := by
    rw [← hr]
    unfold octOk
    rw [decide_eq_true (show (0 : Int) ≤ n by omega), decide_eq_true (show (1 : Int) ≤ d by omega), decide_eq_true (show (d : Int) ≤ 20 by omega)]
    simp
  have HR := Aside0.mk hr2
  clear hr hr2 c1 c2 c3 hm
  go_enter Try.func104, Try.ntmps104
  go_wp2_with (first | ((with_reducible refine gate_dst (N := 21) rfl ?_); (try (refine gate_guard (by rfl) ?_; dsimp only)); refine Kd.R_make (Kd.int .u8) (w0 := w) w.heap.size 5 rfl (N := 21) rfl 50 _ _ rfl (d : Int) rfl rfl Try.underlying50 (.int .u8 0) 1 info5 rfl (by decide) (by omega) 0 (ok := fun _ => True) (okp := fun _ => True) rfl (fun _ hk => hk) trivial (by omega) (by omega) (Below.refl _ _) (Nat.le_refl _) ?_; intro v1 w1 ho hb hg hnew))
  rw [Int.toNat_natCast] at ho
  obtain ⟨go, co, eo, gb, gl, cl, HG⟩ := Kd.R_form ho (by rw [List.length_replicate]; omega)
  rw [List.length_replicate] at eo
  subst eo
  have HO := Aside0.mk (Kd.R_alloc ho (.cells #[.int .i64 (n : Int)] 3))
  have HB := Aside0.mk (hb.alloc hb.size (.cells #[.int .i64 (n : Int)] 3))
  have HBX := Aside0.mk (heap_alloc_new w1 (.cells #[.int .i64 (n : Int)] 3))
  have HL := Aside0.mk (show w.heap.size ≤ w1.heap.size from hb.size)
  clear HG
  have HG := Aside0.mk gb
  clear ho hb hg hnew cl gb
  go_loopw [25] (fun v25 wr => ∃ i : Nat, v25 = .int .i64 i ∧ i ≤ d ∧ Aside0 (wr.heap[w1.heap.size]? = some (.cells #[.int .i64 ((n / 8 ^ i : Nat) : Int)] 3 (0, 0))) ∧ Aside0 (Kd.R (Kd.int .u8) 5 wr w.heap.size (fun _ => True) (.slice (some ⟨go, 0, none⟩) d co) (List.replicate (d - i) 0 ++ octL n i)) ∧ Aside0 (Below w.heap.size w wr)) (fun v25 _ => d - (intOf v25).toNat)
  case atStart => exact ⟨0, rfl, Nat.zero_le _, ⟨by rw [Nat.pow_zero, Nat.div_one]; exact HBX.out⟩, ⟨by simp only [octL, List.append_nil, Nat.sub_zero]; exact HO.out⟩, HB⟩
  case round =>
    obtain ⟨i, rfl, hi, HX, HO, HB⟩ := hrel
    clear HBX
    by_cases hlt : i < d
    · have h0 : (n / 8 ^ i : Nat) ≤ n := Nat.div_le_self _ _
      obtain ⟨x, hx⟩ : ∃ x, n / 8 ^ i = x := ⟨_, rfl⟩
      rw [hx] at h0 HX
      have HXN := Aside0.mk hx
      clear hx
      have hcall := num_Octal1.at_ w1.heap.size (x : Int) (by omega) (by omega) wr HX.out
      have hj0 : (0 : Int) ≤ (d : Int) - 1 - (i : Int) := by omega
      have hj1 : (d : Int) - 1 - (i : Int) < (d : Int) := by omega
      have HNG := Aside0.mk (show w1.heap.size ≠ go by omega)
      go_wp2_with (fail)
      refine hcall.mono ?_
      rintro e w' ⟨rfl, hw2⟩
      have HX2 : w'.heap[w1.heap.size]? = some (.cells #[.int .i64 ((x : Int) / 8)] 3 (0, 0)) := by
        rw [← hw2]
        exact blk_set HX.out 0 _
      have HO2 : Kd.R (Kd.int .u8) 5 w' w.heap.size (fun _ => True) (.slice (some ⟨go, 0, none⟩) d co) (List.replicate (d - i) 0 ++ octL n i) := by
        rw [← hw2]
        exact Kd.R_set HO.out HX.out (by intro q hq; simp [Kd.int, Kd.scalar] at hq; omega) 0 _
      have HB2 : Below w.heap.size w w' := by
        rw [← hw2]
        exact HB.out.setCell (p := ⟨w1.heap.size, 0, none⟩) HL.out _
      clear hw2 HX HO HB hcall
      have hc1 := Kd.R_celln 0 HO2 ((d - 1 - i : Nat) : Int) (by omega) (by omega)
      have HP := Kd.R_putg HO2 ((d - 1 - i : Nat) : Int) (48 + (x : Int) % 8)
      rw [Int.toNat_natCast] at hc1 HP
      obtain ⟨hc1, hf1⟩ := hc1
      have HX := Aside0.mk HX2
      have HB := Aside0.mk HB2
      have HPH := Aside0.mk HP
      clear HX2 HO2 HB2 HP
      go_wp2_with (fail)
      go_roundw
      case rel =>
        refine ⟨i + 1, by go_num, by omega, ⟨?_⟩, ⟨?_⟩, ⟨?_⟩⟩
        · rw [Nat.pow_succ, ← Nat.div_div_eq_div_mul, HXN.out]
          exact blk_far HX.out HNG.out _
        · have := HPH.out.1
          have e : (List.replicate (d - i) (0 : Int) ++ octL n i).set (d - 1 - i) (48 + (x : Int) % 8) = List.replicate (d - (i + 1)) 0 ++ octL n (i + 1) := by
            rw [octL_cons, HXN.out, show d - i = (d - (i + 1)) + 1 by omega, List.replicate_succ', List.append_assoc, List.set_append_right _ _ (by rw [List.length_replicate]; omega), List.length_replicate, show d - 1 - i - (d - (i + 1)) = 0 by omega]
            simp
          rw [← e]
          exact this
        · exact HB.out.setCell (p := ⟨go, d - 1 - i, none⟩) HG.out _
      case measure => simp [intOf]; omega
    · obtain rfl : i = d := by omega
      obtain ⟨x, hx⟩ : ∃ x, n / 8 ^ i = x := ⟨_, rfl⟩
      have HX2 := HX.out
      rw [hx] at HX2
      have hc := blk_cell HX2 0
      simp only [List.size_toArray, List.length_cons, List.length_nil, Nat.zero_add, Nat.lt_one_iff, getElem?_pos, List.getElem_toArray, List.getElem_cons_zero] at hc
      have hR := HR.out
      rw [hx] at hR
      have hO := HO.out
      rw [Nat.sub_self, List.replicate_zero, List.nil_append] at hO
      have hlen := octL_length i n
      clear hx HX HX2 HO
      by_cases hz : x = 0
      · subst hz
        rw [if_pos rfl] at hR
        subst hR
        have hstr := Kd.C_string (P := Try.prog) (src := 50) (dst := 9) (c := co) Try.underlying50 Try.underlying5 Try.underlying9 (Kd.R_reads' hO).2.2
        rw [hlen] at hstr
        clear hO
        go_wp2_with (fail)
        go_ret2
        exact ⟨rfl, HB.out⟩
      · rw [if_neg hz] at hR
        subst hR
        have hz2 : decide ((x : Int) > 0) = true := decide_eq_true (by omega)
        have hz3 : decide (0 < x) = true := decide_eq_true (by omega)
        clear hz
        go_wp2_with (fail)
        go_ret2
        exact ⟨rfl, HB.out⟩
end Go.Proofs.Ytddjnicmpgbcgaa.X
