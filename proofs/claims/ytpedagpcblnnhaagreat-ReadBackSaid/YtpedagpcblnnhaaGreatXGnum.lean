import Derived.Test.YtpedagpcblnnhaaGreatXK
import Derived.Test.YtpedagpcblnnhaaGreatYAll
import Derived.BigQuiet
import Derived.Deep.QuietTactic
import Derived.Laws.BitsLemmas
import Derived.Laws.EntriesVeiled
import Derived.WalkSpells
namespace Go.Proofs.YtpedagpcblnnhaaGreat.X
open Go.RowKit Go.Proofs.YtpedagpcblnnhaaGreatW.PrintWords Go.Proofs.YtpedagpcblnnhaaGreatW.PrintLast Go.Proofs.YtpedagpcblnnhaaGreatW.PrintMore
attribute [local go_sem] max2_int min2_int max_two min_two
set_option linter.unusedVariables false
set_option linter.unusedSimpArgs false
section
theorem and7 (x : Int) (hx : 0 ≤ x) (hx2 : x ≤ 9223372036854775807) : bits .and .i64 x 7 = x % 8 := by
  have h := bits_mask .i64 63 (by decide) (fun n h0 h1 => by rw [IntKind.wrap_i64]; omega) 3 (by decide) x hx (by omega)
  simpa using h
set_option maxHeartbeats 1000000 in
theorem num_Octal1.at_ (b : Nat) (x : Int) (hx : 0 ≤ x) (hx2 : x ≤ 9223372036854775807) (W : World) (hb : W.heap[b]? = some (.cells #[.int .i64 x] 3 (0, 0))) :
    Calls Tryz.prog 130 #[.pointer (some ⟨b, 0, none⟩)] W fun e w' => e = .returned (.int .u8 (48 + x % 8)) ∧ W.setCell ⟨b, 0, none⟩ (.int .i64 (x / 8)) = w' := by
  have hc := blk_cell hb 0
  simp only [List.size_toArray, List.length_cons, List.length_nil, Nat.zero_add, Nat.lt_one_iff, getElem?_pos, List.getElem_toArray, List.getElem_cons_zero] at hc
  have hf := blk_frozen hb 0
  have h7 := and7 x hx hx2
  have hm : 0 ≤ x % 8 ∧ x % 8 < 8 := by omega
  clear hb
  go_enter Tryz.func130, Tryz.ntmps130
  go_wp2
  go_ret
  exact ⟨rfl, rfl⟩
def octL : Nat → Nat → List Int
  | _, 0 => []
  | n, d + 1 => octL (n / 8) d ++ [((48 + n % 8 : Nat) : Int)]
theorem octL_length : ∀ (d n : Nat), (octL n d).length = d
  | 0, _ => rfl
  | d + 1, n => by rw [octL, List.length_append, octL_length d]; rfl
theorem octL_cons : ∀ (d n : Nat), octL n (d + 1) = ((48 + (n / 8 ^ d) % 8 : Nat) : Int) :: octL n d
  | 0, n => by simp [octL]
  | d + 1, n => by
    rw [octL, octL_cons d (n / 8), octL, List.cons_append]
    congr 3
    rw [Nat.div_div_eq_div_mul, ← Nat.pow_succ']
def octOk (n d : Int) : Bool := decide (0 ≤ n) && (decide (1 ≤ d) && (decide (d ≤ 20) && decide (n.toNat / 8 ^ d.toNat = 0)))
def num_Octal.f (a0 a1 : Int) : Option (ByteArray × Bool) := if 9223372036854775807 < a0 then none else some (if octOk a0 a1 = true then (strOfNums (octL a0.toNat a1.toNat), true) else (⟨#[]⟩, false))
set_option maxHeartbeats 4000000 in
set_option maxRecDepth 100000 in
theorem num_Octal.calls (a0 a1 : Int) (r : ByteArray × Bool) (w : World) (h : num_Octal.f a0 a1 = some r) :
    Calls Tryz.prog 112 #[.int .i64 a0, .int .i64 a1] w fun e w' => e = .returned (.tuple #[.string r.1, .bool r.2]) ∧ Below w.heap.size w w' := by
  unfold num_Octal.f at h
  by_cases hm : 9223372036854775807 < a0
  · rw [if_pos hm] at h
    cases h
  rw [if_neg hm] at h
  have hr := Option.some.inj h
  clear h
  by_cases c1 : a0 < 0
  · rw [if_neg (by unfold octOk; rw [decide_eq_false (by omega)]; simp)] at hr
    subst hr
    have c1b := decide_eq_true c1
    clear c1
    go_enter Tryz.func112, Tryz.ntmps112
    go_wp2
    go_ret2
    exact ⟨rfl, Below.refl _ _⟩
  by_cases c2 : a1 < 1
  · rw [if_neg (by unfold octOk; rw [decide_eq_false (show ¬ 1 ≤ a1 by omega)]; simp)] at hr
    subst hr
    have c1b := decide_eq_false c1
    have c2b := decide_eq_true c2
    clear c1 c2
    go_enter Tryz.func112, Tryz.ntmps112
    go_wp2
    go_ret2
    exact ⟨rfl, Below.refl _ _⟩
  by_cases c3 : a1 > 20
  · rw [if_neg (by unfold octOk; rw [decide_eq_false (show ¬ a1 ≤ 20 by omega)]; simp)] at hr
    subst hr
    have c1b := decide_eq_false c1
    have c2b := decide_eq_false c2
    have c3b := decide_eq_true c3
    clear c1 c2 c3
    go_enter Tryz.func112, Tryz.ntmps112
    go_wp2
    go_ret2
    exact ⟨rfl, Below.refl _ _⟩
  obtain ⟨n, rfl⟩ := Int.eq_ofNat_of_zero_le (show 0 ≤ a0 by omega)
  obtain ⟨d, rfl⟩ := Int.eq_ofNat_of_zero_le (show 0 ≤ a1 by omega)
  have hd : 1 ≤ d ∧ d ≤ 20 := by omega
  have c1b : decide ((n : Int) < 0) = false := decide_eq_false c1
  have c2b : decide ((d : Int) < 1) = false := decide_eq_false c2
  have c3b : decide ((d : Int) > 20) = false := decide_eq_false c3
  have hn9 : (n : Int) ≤ 9223372036854775807 := by omega
  have hr2 : (if n / 8 ^ d = 0 then (strOfNums (octL n d), true) else (⟨#[]⟩, false)) = r := by
    rw [← hr]
    unfold octOk
    rw [decide_eq_true (show (0 : Int) ≤ n by omega), decide_eq_true (show (1 : Int) ≤ d by omega), decide_eq_true (show (d : Int) ≤ 20 by omega)]
    simp
  have HR := Aside0.mk hr2
  clear hr hr2 c1 c2 c3 hm
  go_enter Tryz.func112, Tryz.ntmps112
  go_wp2_with (first | ((with_reducible refine gate_dst (N := 21) rfl ?_); (try (refine gate_guard (by rfl) ?_; dsimp only)); refine Kd.R_make (Kd.int .u8) (w0 := w) w.heap.size 5 rfl (N := 21) rfl 43 _ _ rfl (d : Int) rfl rfl Tryz.underlying43 (.int .u8 0) 1 info5 rfl (by decide) (by omega) 0 (ok := fun _ => True) (okp := fun _ => True) rfl (fun _ hk => hk) trivial (by omega) (by omega) (Below.refl _ _) (Nat.le_refl _) ?_; intro v1 w1 ho hb hg hnew))
  rw [Int.toNat_natCast] at ho
  obtain ⟨go, co, eo, gb, gl, cl, HG⟩ := Kd.R_form ho (by rw [List.length_replicate]; omega)
  rw [List.length_replicate] at eo
  subst eo
  have HO := Aside0.mk (Kd.R_alloc ho (.cells #[.int .i64 (n : Int)] 3))
  have HB := Aside0.mk (hb.alloc hb.size (.cells #[.int .i64 (n : Int)] 3))
  have HBX := Aside0.mk (heap_alloc_new w1 (.cells #[.int .i64 (n : Int)] 3))
  have HL := Aside0.mk (show w.heap.size ≤ w1.heap.size from hb.size)
  clear HG
  have HG := Aside0.mk gb
  clear ho hb hg hnew cl gb
  go_loopw [25] (fun v25 wr => ∃ i : Nat, v25 = .int .i64 i ∧ i ≤ d ∧ Aside0 (wr.heap[w1.heap.size]? = some (.cells #[.int .i64 ((n / 8 ^ i : Nat) : Int)] 3 (0, 0))) ∧ Aside0 (Kd.R (Kd.int .u8) 5 wr w.heap.size (fun _ => True) (.slice (some ⟨go, 0, none⟩) d co) (List.replicate (d - i) 0 ++ octL n i)) ∧ Aside0 (Below w.heap.size w wr)) (fun v25 _ => d - (intOf v25).toNat)
  case atStart => exact ⟨0, rfl, Nat.zero_le _, ⟨by rw [Nat.pow_zero, Nat.div_one]; exact HBX.out⟩, ⟨by simp only [octL, List.append_nil, Nat.sub_zero]; exact HO.out⟩, HB⟩
  case round =>
    obtain ⟨i, rfl, hi, HX, HO, HB⟩ := hrel
    clear HBX
    by_cases hlt : i < d
    · have h0 : (n / 8 ^ i : Nat) ≤ n := Nat.div_le_self _ _
      obtain ⟨x, hx⟩ : ∃ x, n / 8 ^ i = x := ⟨_, rfl⟩
      rw [hx] at h0 HX
      have HXN := Aside0.mk hx
      clear hx
      have hcall := num_Octal1.at_ w1.heap.size (x : Int) (by omega) (by omega) wr HX.out
      have hj0 : (0 : Int) ≤ (d : Int) - 1 - (i : Int) := by omega
      have hj1 : (d : Int) - 1 - (i : Int) < (d : Int) := by omega
      have HNG := Aside0.mk (show w1.heap.size ≠ go by omega)
      go_wp2_with (fail)
      refine hcall.mono ?_
      rintro e w' ⟨rfl, hw2⟩
      have HX2 : w'.heap[w1.heap.size]? = some (.cells #[.int .i64 ((x : Int) / 8)] 3 (0, 0)) := by
        rw [← hw2]
        exact blk_set HX.out 0 _
      have HO2 : Kd.R (Kd.int .u8) 5 w' w.heap.size (fun _ => True) (.slice (some ⟨go, 0, none⟩) d co) (List.replicate (d - i) 0 ++ octL n i) := by
        rw [← hw2]
        exact Kd.R_set HO.out HX.out (by intro q hq; simp [Kd.int, Kd.scalar] at hq; omega) 0 _
      have HB2 : Below w.heap.size w w' := by
        rw [← hw2]
        exact HB.out.setCell (p := ⟨w1.heap.size, 0, none⟩) HL.out _
      clear hw2 HX HO HB hcall
      have hc1 := Kd.R_celln 0 HO2 ((d - 1 - i : Nat) : Int) (by omega) (by omega)
      have HP := Kd.R_putg HO2 ((d - 1 - i : Nat) : Int) (48 + (x : Int) % 8)
      rw [Int.toNat_natCast] at hc1 HP
      obtain ⟨hc1, hf1⟩ := hc1
      have HX := Aside0.mk HX2
      have HB := Aside0.mk HB2
      have HPH := Aside0.mk HP
      clear HX2 HO2 HB2 HP
      go_wp2_with (fail)
      go_roundw
      case rel =>
        refine ⟨i + 1, by go_num, by omega, ⟨?_⟩, ⟨?_⟩, ⟨?_⟩⟩
        · rw [Nat.pow_succ, ← Nat.div_div_eq_div_mul, HXN.out]
          exact blk_far HX.out HNG.out _
        · have := HPH.out.1
          have e : (List.replicate (d - i) (0 : Int) ++ octL n i).set (d - 1 - i) (48 + (x : Int) % 8) = List.replicate (d - (i + 1)) 0 ++ octL n (i + 1) := by
            rw [octL_cons, HXN.out, show d - i = (d - (i + 1)) + 1 by omega, List.replicate_succ', List.append_assoc, List.set_append_right _ _ (by rw [List.length_replicate]; omega), List.length_replicate, show d - 1 - i - (d - (i + 1)) = 0 by omega]
            simp
          rw [← e]
          exact this
        · exact HB.out.setCell (p := ⟨go, d - 1 - i, none⟩) HG.out _
      case measure => simp [intOf]; omega
    · obtain rfl : i = d := by omega
      obtain ⟨x, hx⟩ : ∃ x, n / 8 ^ i = x := ⟨_, rfl⟩
      have HX2 := HX.out
      rw [hx] at HX2
      have hc := blk_cell HX2 0
      simp only [List.size_toArray, List.length_cons, List.length_nil, Nat.zero_add, Nat.lt_one_iff, getElem?_pos, List.getElem_toArray, List.getElem_cons_zero] at hc
      have hR := HR.out
      rw [hx] at hR
      have hO := HO.out
      rw [Nat.sub_self, List.replicate_zero, List.nil_append] at hO
      have hlen := octL_length i n
      clear hx HX HX2 HO
      by_cases hz : x = 0
      · subst hz
        rw [if_pos rfl] at hR
        subst hR
        have hstr := Kd.C_string (P := Tryz.prog) (src := 43) (dst := 9) (c := co) Tryz.underlying43 Tryz.underlying5 Tryz.underlying9 (Kd.R_reads' hO).2.2
        rw [hlen] at hstr
        clear hO
        go_wp2_with (fail)
        go_ret2
        exact ⟨rfl, HB.out⟩
      · rw [if_neg hz] at hR
        subst hR
        have hz2 : decide ((x : Int) > 0) = true := decide_eq_true (by omega)
        have hz3 : decide (0 < x) = true := decide_eq_true (by omega)
        clear hz
        go_wp2_with (fail)
        go_ret2
        exact ⟨rfl, HB.out⟩
end
section
def num_width.f (a0 : Int) : Option (Bool) := if a0 ≥ 2 then (some (decide (a0 ≤ 20))) else (some false)
set_option maxHeartbeats 8000000 in
set_option maxRecDepth 100000 in
theorem num_width.calls (a0 : Int) (r : Bool) (w : World) (h : num_width.f a0 = some r) :
    Calls Tryz.prog 111 #[.int .i64 a0] w fun e w' => e = .returned (.bool r) ∧ Drawn0 w w' := by
  have H : (if a0 ≥ 2 then (some (decide (a0 ≤ 20))) else (some false)) = some r := h
  clear h
  by_cases c2 : a0 ≥ 2
  · rw [if_pos c2] at H
    have c2b0 : decide (2 ≤ a0) = true := decide_eq_true c2
    clear c2
    obtain rfl := Option.some.inj H
    go_enter Tryz.func111, Tryz.ntmps111
    go_wp2
    go_ret
    exact ⟨by first | rfl | (simp; done) | (simp [*]; done), by repeat (first | exact Drawn0.refl _ | apply Drawn0.step)⟩
  · rw [if_neg c2] at H
    have c2b0 : decide (2 ≤ a0) = false := decide_eq_false c2
    clear c2
    obtain rfl := Option.some.inj H
    go_enter Tryz.func111, Tryz.ntmps111
    go_wp2
    go_ret
    exact ⟨by first | rfl | (simp; done) | (simp [*]; done), by repeat (first | exact Drawn0.refl _ | apply Drawn0.step)⟩
end
section
open Go.Proofs.YtpedagpcblnnhaaGreatY
def bytL : Nat → Nat → List Int
  | _, 0 => []
  | n, d + 1 => bytL (n / 256) d ++ [((n % 256 : Nat) : Int)]
theorem bytL_length : ∀ (d n : Nat), (bytL n d).length = d
  | 0, _ => rfl
  | d + 1, n => by rw [bytL, List.length_append, bytL_length d]; rfl
theorem bytL_cons : ∀ (d n : Nat), bytL n (d + 1) = (((n / 256 ^ d) % 256 : Nat) : Int) :: bytL n d
  | 0, n => by simp [bytL]
  | d + 1, n => by
    rw [bytL, bytL_cons d (n / 256), bytL, List.cons_append]
    congr 3
    rw [Nat.div_div_eq_div_mul, ← Nat.pow_succ']
theorem octL_range : ∀ (d n : Nat), ∀ x ∈ octL n d, 0 ≤ x ∧ x ≤ 255
  | 0, _, x, h => by simp [octL] at h
  | d + 1, n, x, h => by
    rw [octL, List.mem_append, List.mem_singleton] at h
    rcases h with h | rfl
    · exact octL_range d _ x h
    · have := Nat.mod_lt n (show 0 < 8 by decide); omega
theorem bytes_of_nums : ∀ (l : List Int), (∀ x ∈ l, 0 ≤ x ∧ x ≤ 255) → bytesOf (strOfNums l) = l := by
  intro l h
  unfold bytesOf strOfNums
  simp only [List.map_map]
  conv => rhs; rw [← List.map_id l]
  refine List.map_congr_left fun x hx => ?_
  have := h x hx
  simp only [Function.comp, id, UInt8.toNat_ofNat']
  omega
theorem strOfNums_size (l : List Int) : (strOfNums l).size = l.length := by
  show (List.map (fun n => UInt8.ofNat n.toNat) l).toArray.size = _
  simp
def putN (n w : Int) : List Int × Bool :=
  if n < 0 ∨ w < 2 ∨ 20 < w then ([], false)
  else if n.toNat / 8 ^ (w.toNat - 1) = 0 then (octL n.toNat (w.toNat - 1) ++ [0], true)
  else if n.toNat / 256 ^ (w.toNat - 1) = 0 then (128 :: bytL n.toNat (w.toNat - 1), true) else ([], false)
theorem num_width.at_ (a : Int) (w : World) : Calls Tryz.prog 111 #[.int .i64 a] w fun e w' => e = .returned (.bool (decide (a ≥ 2) && decide (a ≤ 20))) ∧ Drawn0 w w' := by
  refine num_width.calls a _ w ?_
  unfold num_width.f
  by_cases h : a ≥ 2
  · simp [h]
  · simp [h]
set_option maxHeartbeats 4000000 in
set_option maxRecDepth 100000 in
theorem num_Put.at_ (a0 a1 : Int) (l : List Int) (b : Bool) (w : World) (h9 : a0 ≤ 9223372036854775807) (h : Aside0 (putN a0 a1 = (l, b))) :
    Calls Tryz.prog 84 #[.int .i64 a0, .int .i64 a1] w fun e w' => ∃ A c, e = .returned (.tuple #[.slice A l.length c, .bool b]) ∧ l.length ≤ c ∧ Kd.C (Kd.int .u8) w' A l.length l ∧ Below w.heap.size w w' ∧ (∀ ad, A = some ad → w.heap.size ≤ ad.block) := by
  have hr := h.out
  clear h
  unfold putN at hr
  by_cases c1 : a0 < 0
  · rw [if_pos (.inl c1)] at hr
    obtain ⟨rfl, rfl⟩ := Prod.mk.inj hr
    have c1b := decide_eq_true c1
    clear c1 hr
    go_enter Tryz.func84, Tryz.ntmps84
    go_wp2
    go_ret2
    exact ⟨none, 0, rfl, Nat.le_refl _, Kd.C_nil _ _, Below.refl _ _, fun _ h => by cases h⟩
  have c1b := decide_eq_false c1
  by_cases c2 : a1 < 2 ∨ 20 < a1
  · rw [if_pos (.inr c2)] at hr
    obtain ⟨rfl, rfl⟩ := Prod.mk.inj hr
    have cw : (decide (a1 ≥ 2) && decide (a1 ≤ 20)) = false := by
      rw [Bool.and_eq_false_iff, decide_eq_false_iff_not, decide_eq_false_iff_not]; omega
    have hw := fun W => num_width.at_ a1 W
    rw [cw] at hw
    clear c1 hr c2 cw
    go_enter Tryz.func84, Tryz.ntmps84
    go_wp2_with (first | (go_at_call 111; refine (hw _).mono ?_; rintro e w' ⟨rfl, ⟨nd, rfl⟩⟩))
    go_ret2
    exact ⟨none, 0, rfl, Nat.le_refl _, Kd.C_nil _ _, pw_below_drewN (Below.refl _ _) _, fun _ h => by cases h⟩
  have cw : (decide (a1 ≥ 2) && decide (a1 ≤ 20)) = true := by
    rw [Bool.and_eq_true, decide_eq_true_iff, decide_eq_true_iff]; omega
  have hw := fun W => num_width.at_ a1 W
  rw [cw] at hw
  rw [if_neg (by omega)] at hr
  obtain ⟨n, rfl⟩ := Int.eq_ofNat_of_zero_le (show 0 ≤ a0 by omega)
  obtain ⟨d, rfl⟩ : ∃ d : Nat, a1 = ((d + 1 : Nat) : Int) := ⟨a1.toNat - 1, by omega⟩
  have hd : 1 ≤ d ∧ d ≤ 19 := by omega
  simp only [Int.toNat_natCast, Nat.add_sub_cancel] at hr
  have hoct := fun W => num_Octal.calls (n : Int) (d : Int) (if octOk n d = true then (strOfNums (octL n d), true) else (⟨#[]⟩, false)) W (by
    unfold num_Octal.f
    rw [if_neg (by omega)]
    rfl)
  have hok : octOk (n : Int) (d : Int) = decide (n / 8 ^ d = 0) := by
    unfold octOk
    rw [decide_eq_true (show (0 : Int) ≤ n by omega), decide_eq_true (show (1 : Int) ≤ d by omega), decide_eq_true (show (d : Int) ≤ 20 by omega)]
    simp
  rw [hok] at hoct
  have hds : ((d + 1 : Nat) : Int) - 1 = (d : Int) := by omega
  clear hok cw c2 c1
  by_cases c3 : n / 8 ^ d = 0
  · rw [if_pos c3] at hr
    obtain ⟨rfl, rfl⟩ := Prod.mk.inj hr
    rw [decide_eq_true c3] at hoct
    simp only [if_true] at hoct
    obtain ⟨txt, htxt⟩ : ∃ s, strOfNums (octL n d) = s := ⟨_, rfl⟩
    rw [htxt] at hoct
    have hbo : bytesOf txt = octL n d := by rw [← htxt]; exact bytes_of_nums _ (octL_range d n)
    have hsz : txt.size = d := by rw [← htxt, strOfNums_size, octL_length]
    have HBO := Aside0.mk hbo
    have HSZ := Aside0.mk hsz
    have kb := fun W => print_bytes (P := Tryz.prog) 9 43 5 Tryz.underlying9 Tryz.underlying43 Tryz.underlying5 txt W
    clear hr c3 htxt hbo hsz
    go_enter Tryz.func84, Tryz.ntmps84
    go_wp2_with (first | (go_at_call 111; refine (hw _).mono ?_; rintro e w' ⟨rfl, ⟨nd, rfl⟩⟩) | (go_at_call 112; refine (hoct _).mono ?_; rintro e w1 ⟨rfl, hb1⟩) | (at_builtin; refine wpList_append_bytes w1 rfl (.tmp 27) (.tmp 28) 43 5 rfl Tryz.underlying43 info5 txt [0] (by decide) rfl rfl (by have := HSZ.out; simp; omega) ?_; intro g c w2 hg hc hC hb2))
    go_ret2
    have e : (octL n d ++ [0]).length = txt.size + 1 := by rw [List.length_append, octL_length, HSZ.out]; rfl
    rw [HBO.out] at hC hc
    rw [← e]
    have hz1 : w.heap.size ≤ w1.heap.size := hb1.size
    refine ⟨_, c, rfl, hc, hC, ?_, fun ad h => by cases h; exact Nat.le_trans hz1 hg⟩
    exact below_then (pw_below_drewN (Below.refl _ _) _) (Nat.le_refl _) (below_then hb1 hb1.size hb2)
  rw [if_neg c3] at hr
  rw [decide_eq_false c3] at hoct
  simp only [Bool.false_eq_true, if_false] at hoct
  have hds2 : ((d + 1 : Nat) : Int) - 1 = (d : Int) := hds
  have HR := Aside0.mk hr
  clear hr c3
  go_enter Tryz.func84, Tryz.ntmps84
  go_wp2_with (first | (go_at_call 111; refine (hw _).mono ?_; rintro e w' ⟨rfl, ⟨nd, rfl⟩⟩) | (go_at_call 112; refine (hoct _).mono ?_; rintro e w1 ⟨rfl, hb1⟩) | ((with_reducible refine gate_dst (N := 31) rfl ?_); (try (refine gate_guard (by rfl) ?_; dsimp only)); refine Kd.R_make (Kd.int .u8) (w0 := w1) w1.heap.size 5 rfl (N := 31) rfl 43 _ _ rfl ((d + 1 : Nat) : Int) rfl rfl Tryz.underlying43 (.int .u8 0) 1 info5 rfl (by decide) (by omega) 0 (ok := fun _ => True) (okp := fun _ => True) rfl (fun _ hk => hk) trivial (by omega) (by omega) (Below.refl _ _) (Nat.le_refl _) ?_; intro v1 w2 ho hb hg hnew; rw [Int.toNat_natCast] at ho; obtain ⟨go, co, eo, gb, gl, cl, HG⟩ := Kd.R_form ho (by rw [List.length_replicate]; omega); rw [List.length_replicate] at eo; subst eo; obtain ⟨hc1, hf1⟩ := Kd.R_celln 0 ho 0 (by omega) (by omega); have HP := Aside0.mk (Kd.R_putg ho 0 128); have HB := Aside0.mk hb; have HGB := Aside0.mk gb; simp only [Int.toNat_zero] at hc1 hf1; clear ho hb hg hnew gb HG cl))
  go_loopw [9, 37] (fun v9 v37 wr => ∃ (i x : Nat), v37 = .int .i64 i ∧ v9 = .int .i64 x ∧ i ≤ d ∧ x ≤ n ∧ Aside0 (n / 256 ^ i = x) ∧ Aside0 (Kd.R (Kd.int .u8) 5 wr w1.heap.size (fun _ => True) (.slice (some ⟨go, 0, none⟩) (d + 1) co) (128 :: (List.replicate (d - i) 0 ++ bytL n i))) ∧ Aside0 (Below w1.heap.size w1 wr)) (fun _ v37 _ => d - (intOf v37).toNat)
  case atStart => exact ⟨0, n, rfl, rfl, Nat.zero_le _, Nat.le_refl _, ⟨by rw [Nat.pow_zero, Nat.div_one]⟩, ⟨by simp only [bytL, List.append_nil, Nat.sub_zero]; exact HP.out.1⟩, ⟨HB.out.setCell (p := ⟨go, 0, none⟩) HGB.out _⟩⟩
  case round =>
    obtain ⟨i, x, rfl, rfl, hi, hx, HXN, HO, HBW⟩ := hrel
    clear HP HB hc1 hf1
    by_cases hlt : i < d
    · have hc1 := Kd.R_celln 0 HO.out ((d - i : Nat) : Int) (by omega) (by omega)
      have HP := Aside0.mk (Kd.R_putg HO.out ((d - i : Nat) : Int) ((x % 256 : Nat) : Int))
      simp only [Int.toNat_natCast] at hc1 HP
      obtain ⟨hc1, hf1⟩ := hc1
      have hji : (d : Int) - (i : Int) = ((d - i : Nat) : Int) := by omega
      have hj1 : ((d - i : Nat) : Int) < ((d + 1 : Nat) : Int) := by omega
      clear HO
      go_wp2_with (fail)
      go_roundw
      case rel =>
        refine ⟨i + 1, x / 256, by go_num, by go_num, by omega, Nat.le_trans (Nat.div_le_self _ _) hx, ⟨?_⟩, ⟨?_⟩, ⟨?_⟩⟩
        · rw [Nat.pow_succ, ← Nat.div_div_eq_div_mul, HXN.out]
        · have := HP.out.1
          have e : (128 :: (List.replicate (d - i) (0 : Int) ++ bytL n i)).set (d - i) ((x % 256 : Nat) : Int) = 128 :: (List.replicate (d - (i + 1)) 0 ++ bytL n (i + 1)) := by
            rw [bytL_cons, HXN.out, show d - i = (d - (i + 1)) + 1 by omega, List.set_cons_succ, List.replicate_succ', List.append_assoc, List.set_append_right _ _ (by rw [List.length_replicate]; exact Nat.le_refl _), List.length_replicate, Nat.sub_self]
            rfl
          rw [← e]
          exact this
        · exact HBW.out.setCell (p := ⟨go, d - i, none⟩) HGB.out _
      case measure => simp [intOf]; omega
    · obtain rfl : i = d := by omega
      have hO := HO.out
      rw [Nat.sub_self, List.replicate_zero, List.nil_append] at hO
      have hR := HR.out
      rw [HXN.out] at hR
      have HB := Aside0.mk (below_then (pw_below_drewN (Below.refl _ _) nd) (Nat.le_refl _) (below_then hb1 hb1.size HBW.out))
      by_cases hz : x = 0
      · subst hz
        rw [if_pos rfl] at hR
        obtain ⟨rfl, rfl⟩ := Prod.mk.inj hR
        have hC := Kd.R_reads' hO
        have hlen : (128 :: bytL n i).length = i + 1 := by rw [List.length_cons, bytL_length]
        have HC := Aside0.mk hC
        clear hC hO HO hR
        go_wp2_with (fail)
        go_ret2
        have h3 := HC.out.2.2
        rw [hlen] at h3 ⊢
        exact ⟨_, _, rfl, HC.out.2.1, h3, HB.out, fun ad h => by cases h; exact Nat.le_trans (show w.heap.size ≤ w1.heap.size from hb1.size) HGB.out⟩
      · rw [if_neg hz] at hR
        obtain ⟨rfl, rfl⟩ := Prod.mk.inj hR
        have hz2 : decide ((x : Int) > 0) = true := decide_eq_true (by omega)
        have hz3 : decide (0 < x) = true := decide_eq_true (by omega)
        clear hz hO HO hR
        go_wp2_with (fail)
        go_ret2
        exact ⟨none, 0, rfl, Nat.le_refl _, Kd.C_nil _ _, HB.out, fun _ h => by cases h⟩
end
end Go.Proofs.YtpedagpcblnnhaaGreat.X
