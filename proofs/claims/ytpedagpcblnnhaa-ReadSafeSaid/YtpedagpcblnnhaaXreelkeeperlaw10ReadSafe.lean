import Derived.Test.YtpedagpcblnnhaaXK
import Derived.Test.YtpedagpcblnnhaaXGhead
import Derived.Test.YtpedagpcblnnhaaXGpa
import Derived.Test.YtpedagpcblnnhaaXGpj
import Derived.Test.YtpedagpcblnnhaaXGrb
import Derived.Test.YtpedagpcblnnhaaXGrc
import Derived.Test.YtpedagpcblnnhaaXGrd
import Derived.Test.YtpedagpcblnnhaaXGreelkeeperref06
import Derived.Test.YtpedagpcblnnhaaXGtree
import Derived.Test.YtpedagpcblnnhaaXreelkeeperlaw03Few
import Derived.Test.YtpedagpcblnnhaaYAll
import Derived.Test.YtpedagpcblnnhaaP04g
import Derived.Test.YtpedagpcblnnhaaP09a
import Derived.Test.YtpedagpcblnnhaaP09s
import Derived.Test.YtpedagpcblnnhaaP10a
import Derived.Test.YtpedagpcblnnhaaP10k
import Derived.Test.YtpedagpcblnnhaaP10s
import Derived.Test.YtpedagpcblnnhaaP15o
import Derived.Test.YtpedagpcblnnhaaPGA
import Derived.Test.YtpedagpcblnnhaaPGE
import Derived.Deep.RegionHeld3
import Derived.Laws.EntriesVeiled
import Derived.WalkSpells
namespace Go.Proofs.Ytpedagpcblnnhaa.X
open Go.RowKit Go.Proofs.YtpedagpcblnnhaaW.PrintWords Go.Proofs.YtpedagpcblnnhaaW.PrintLast Go.Proofs.YtpedagpcblnnhaaW.PrintMore
attribute [local go_sem] max2_int min2_int max_two min_two
set_option linter.unusedVariables false
set_option linter.unusedSimpArgs false

open Go.Proofs.YtpedagpcblnnhaaY
set_option maxRecDepth 100000
theorem ref_selfR_loop (l : List Nd) (hl : l.length ≤ 100000) : ∀ (d i : Nat), i + d = l.length → Ev (fun k => reelkeeperref06_Same.l0 k l l (i : Int)) true := by
  intro d
  induction d with
  | zero =>
    intro i hi
    refine Ev.step (fun _ => rfl) ?_
    simp only [reelkeeperref06_Same.l0]
    exact Ev.if_neg (by omega) (Ev.now _)
  | succ d ih =>
    intro i hi
    refine Ev.step (fun _ => rfl) ?_
    simp only [reelkeeperref06_Same.l0]
    refine Ev.if_pos (by omega) ?_
    refine Ev.if_pos (by omega) ?_
    refine Ev.if_pos (by omega) ?_
    refine Ev.if_neg (by simp) ?_
    have hw : wrap64 ((i : Int) + 1) = ((i + 1 : Nat) : Int) := by rw [wrap_id (by omega) (by omega)]; omega
    rw [hw]
    exact ih (i + 1) (by omega)
theorem ref_selfR (l : List Nd) (hl : l.length ≤ 100000) : Ev (fun k => reelkeeperref06_Same.f k l l) true := by
  unfold reelkeeperref06_Same.f
  exact Ev.if_pos rfl (ref_selfR_loop l hl l.length 0 (by omega))
theorem gathS_len : ∀ (l : List Evt) (q : List Nd) (c : Option Nd), (outOf (gathS l q c).1).length ≤ (outOf (q, c)).length + l.length
  | [], q, c => Nat.le_refl _
  | v :: l, q, c => by
    show (outOf (match takeE q c v with | some r => gathS l r.1 r.2 | none => ((q, c), false)).1).length ≤ (outOf (q, c)).length + (l.length + 1)
    have h := takeO_len (outOf (q, c)) c.isSome v
    rw [takeO_E] at h
    cases hE : takeE q c v with
    | none => show (outOf (q, c)).length ≤ _; omega
    | some r =>
      rw [hE] at h
      have h2 := gathS_len l r.1 r.2
      have h3 : (outOf (r.1, r.2)).length ≤ (outOf (q, c)).length + 1 := h
      show (outOf (gathS l r.1 r.2).1).length ≤ _
      omega
theorem gatherF_len (l : List Evt) : (gatherF l).1.length ≤ l.length := by
  have h := gathS_len l [] none
  have e : (outOf (([], none) : List Nd × Option Nd)).length = 0 := rfl
  rw [e, Nat.zero_add] at h
  exact h
theorem ref_same_ev (l m : List Nd) (hl : l = m ∨ l = []) (hm : m.length ≤ 100000) : ∃ b, Ev (fun k => reelkeeperref06_Same.f k l m) b ∧ (l = m → b = true) := by
  rcases hl with rfl | rfl
  · exact ⟨true, ref_selfR l hm, fun _ => rfl⟩
  · by_cases h : m = []
    · subst h; exact ⟨true, ref_selfR [] (by decide), fun _ => rfl⟩
    · refine ⟨false, ?_, fun e => absurd e.symm h⟩
      have hz : m.length ≠ 0 := fun e => h (List.eq_nil_of_length_eq_zero e)
      unfold reelkeeperref06_Same.f
      exact Ev.of_eq fun k => by
        show (if ((([] : List Nd).length : Nat) : Int) = (m.length : Int) then _ else _) = _
        rw [if_neg (by show ¬ ((0 : Nat) : Int) = (m.length : Int); omega)]
def reelkeeperlaw10_ReadSafe.f (k : Nat) (l : List (List Int)) : Option Bool := some true
theorem ReadSafe_told (l : List (List Int)) : ∃ k, reelkeeperlaw10_ReadSafe.f k l = some true := ⟨0, rfl⟩
set_option maxHeartbeats 3200000 in
theorem read_safe.at_ (A : Option Addr) (c : Nat) (L : List (List Int)) (w : World) (hC : Kd.C (Kd.slice 5 (Kd.int .u8)) w A L.length L) (hc : L.length ≤ c) (hby : ∀ x ∈ L, ∀ y ∈ x, 0 ≤ y ∧ y ≤ 255) :
    Calls Try.prog 3 #[.slice A L.length c] w fun e w' => e = .returned (.bool true) ∧ Below w.heap.size w w' := by
  have HC := Aside0.mk hC
  have HB0 := Aside0.mk (Below.refl w.heap.size w)
  have hup := fun W => awake10.at_ W
  obtain ⟨b, hev, hb60⟩ := few3_ev L
  obtain ⟨k3, hk3⟩ := Ev.rounds hev
  have hf3 := fun W (hC : Kd.C (Kd.slice 5 (Kd.int .u8)) W A L.length L) => reelkeeperlaw03_Few.calls k3 A c L b W hC hc hk3
  clear hC hev hk3
  cases hb : b with
  | false =>
    rw [hb] at hf3
    clear hb hb60
    go_enter Try.func3, Try.ntmps3
    go_wp2_with (first | (go_at_call 6; refine (hup _).mono ?_; rintro e_ w1 ⟨rfl, hb_⟩; have HB1 := Aside0.mk (below_step HB0.out hb_); clear hb_) | (go_at_call 7; refine (hf3 _ (Kd.C_below HC.out HB1.out)).mono ?_; rintro e_ w2 ⟨rfl, hd_⟩; have HB2 := Aside0.mk (below_step HB1.out (Drawn0.below hd_)); clear hd_))
    go_ret
    exact ⟨rfl, HB2.out⟩
  | true =>
  rw [hb] at hf3
  have h60 := hb60 hb
  clear hb hb60
  have hrd := fun W hC => read_Read.at_ A c L (by omega) W hC hc hby
  have hpt := fun W hC => read_Part.at_ A c L (by omega) W hC hc hby
  have hus := fun W hC => read_Used.at_ A c L (by omega) W hC hc hby
  have hct := run_count L
  have hgo := (run_gath hby).2
  have hlen : (gatherF (runR st0 L).2.1).1.length ≤ 100000 := by
    have h1 := gatherF_len (runR st0 L).2.1
    omega
  unfold readR at hrd
  unfold partR at hpt
  obtain ⟨Q, hQ⟩ : ∃ Q, runR st0 L = Q := ⟨_, rfl⟩
  rw [hQ] at hrd hpt hus hct hgo hlen
  obtain ⟨s, told, n, e0⟩ := Q
  simp only at hrd hpt hus hct hgo hlen
  generalize (gatherF told).1 = o at *
  obtain ⟨t, ht⟩ : ∃ t : List Nd × Int, (if e0 ≠ 0 then (([] : List Nd), e0) else if s.f0 ≠ 5 then ([], 7) else (o, 0)) = t := ⟨_, rfl⟩
  have hcase : (e0 = 0 ∧ t.2 = 0 ∧ t.1 = o) ∨ (t.2 ≠ 0 ∧ t.1 = [] ∧ (e0 = 0 ∨ t.2 = e0)) := by
    by_cases h0 : e0 = 0
    · rw [if_neg (fun h => h h0)] at ht
      by_cases h5 : s.f0 = 5
      · rw [if_neg (fun h => h h5)] at ht
        exact .inl ⟨h0, by rw [← ht], by rw [← ht]⟩
      · rw [if_pos h5] at ht
        exact .inr ⟨by rw [← ht]; decide, by rw [← ht], .inl h0⟩
    · rw [if_pos h0] at ht
      exact .inr ⟨by rw [← ht]; exact h0, by rw [← ht], .inr (by rw [← ht])⟩
  rw [ht] at hrd
  clear ht hQ
  obtain ⟨t, e1⟩ := t
  simp only at hrd hcase
  obtain ⟨bs, hbs, hbt⟩ := ref_same_ev t o (by rcases hcase with ⟨_, _, h⟩ | ⟨_, h, _⟩; exact .inl h; exact .inr h) hlen
  obtain ⟨ks, hks⟩ := Ev.rounds hbs
  have HGO := Aside0.mk hgo
  have HLN := Aside0.mk hlen
  have q4 : decide ((n : Int) ≤ (L.length : Int)) = true := decide_eq_true (by have := hct.2.1; omega)
  have q5 : decide (n ≤ L.length) = true := decide_eq_true hct.2.1
  have HCASE := Aside0.mk (And.intro hcase hbt)
  have HKS := Aside0.mk hks
  clear hct hgo hlen hbs h60 hks hcase hbt hby
  go_enter Try.func3, Try.ntmps3
  go_upto_region 6 with (first | (go_at_call 6; refine (hup _).mono ?_; rintro e_ w1 ⟨rfl, hb_⟩; have HB1 := Aside0.mk (below_step HB0.out hb_); clear hb_) | (go_at_call 7; refine (hf3 _ (Kd.C_below HC.out HB1.out)).mono ?_; rintro e_ w2 ⟨rfl, hd_⟩; have HB2 := Aside0.mk (below_step HB1.out (Drawn0.below hd_)); clear hd_) | (go_at_call 8; refine (hrd _ (Kd.C_below HC.out HB2.out)).mono ?_; rintro e_ w3 ⟨A3, c3, rfl, hR, hb_⟩; have HB3 := Aside0.mk (below_step HB2.out hb_); have HT3 := Aside0.mk (Kd.R_reads' hR.out).2; clear hb_ hR))
  go_upto_region 7 with (go_at_call 9; refine (hpt _ (Kd.C_below HC.out HB3.out)).mono ?_; rintro e_ w4 ⟨A4, c4, rfl, hR, hb_⟩; have HB4 := Aside0.mk (below_step HB3.out hb_); have HT4 := Aside0.mk (And.intro HT3.out.1 (Kd.C_below HT3.out.2 hb_)); have HP4 := Aside0.mk (Kd.R_reads' hR.out).2; clear hb_ hR HT3)
  have hsm := fun W h0 h1 => reelkeeperref06_Same.calls ks A3 c3 t A4 c4 o bs W h0 HT4.out.1 h1 HP4.out.1 HKS.out
  have HT4 := Aside0.mk HT4.out.2
  have HP4 := Aside0.mk HP4.out.2
  go_wp2_with (fail)
  go_loopw [9] (fun v9 wr => ∃ i : Nat, v9 = .int .i64 i ∧ i ≤ o.length ∧ Aside0 (Below w.heap.size w wr) ∧ Aside0 (Kd.C kNd wr A3 t.length t) ∧ Aside0 (Kd.C kNd wr A4 o.length o)) (fun v9 _ => o.length - (intOf v9).toNat)
  case atStart => exact ⟨0, rfl, Nat.zero_le _, HB4, HT4, HP4⟩
  case round =>
    obtain ⟨i, rfl, hi, HBr, HTr, HPr⟩ := hrel
    clear HB4 HT4 HP4
    by_cases hlt : i < o.length
    · have hx := List.getElem?_eq_getElem hlt
      have hxm := HGO.out _ (List.getElem_mem hlt)
      obtain ⟨ad, rfl, k0, k1, k2, k3, k4, k5, k6, k7⟩ := nd_cells HPr.out hlt _ hx
      clear hx
      generalize o[i] = x at *
      have hsz := one_sizes hxm
      have hone := fun W => tree_One.calls x.f0 x.f1 x.f2 x.f3 x.f4 x.f5 x.f6 x.f7 true W ((one_b x (Nat.le_trans hsz.1 (by decide)) (Nat.le_trans hsz.2 (by decide))).trans (congrArg some hxm))
      have hi1 : (i : Int) < (o.length : Int) := by omega
      have hi0 : (0 : Int) ≤ (i : Int) := by omega
      have hw : IntKind.i64.wrap ((i : Int) + 1) = ((i + 1 : Nat) : Int) := by have h_ := HLN.out; rw [i64_w, wrap_id (by omega) (by omega)]; omega
      clear hxm hsz
      go_wp2_with (go_at_call 10; refine (hone _).mono ?_; rintro e_ w5 ⟨rfl, hb_⟩; have HB5 := Aside0.mk (below_step HBr.out hb_); have HT5 := Aside0.mk (Kd.C_below HTr.out hb_); have HP5 := Aside0.mk (Kd.C_below HPr.out hb_); clear hb_)
      go_roundw
      case rel => exact ⟨i + 1, by go_num, by omega, HB5, HT5, HP5⟩
      case measure => simp [intOf]; omega
    · obtain rfl : i = o.length := by omega
      have hi1 : decide ((o.length : Int) < (o.length : Int)) = false := decide_eq_false (by omega)
      clear hlt
      obtain ⟨hcase, hbt⟩ := HCASE.out
      rcases hcase with ⟨rfl, rfl, rfl⟩ | ⟨h1, rfl, h3⟩
      · obtain rfl := hbt rfl
        clear hbt
        go_wp2_with (first | (go_at_call 11; refine (hsm _ HTr.out HPr.out).mono ?_; rintro e_ w6 ⟨rfl, hd_⟩; have HB6 := Aside0.mk (below_step HBr.out (Drawn0.below hd_)); clear hd_) | (go_at_call 12; refine (hus _ (Kd.C_below HC.out HB6.out)).mono ?_; rintro e_ w7 ⟨rfl, hb_⟩; have HB7 := Aside0.mk (below_step HB6.out hb_); clear hb_))
        go_ret
        exact ⟨rfl, HB7.out⟩
      · have b1 : (e1 == 0) = false := beq_eq_false_iff_ne.2 h1
        have b1n : (e1 != 0) = true := by simp only [bne, b1]; rfl
        clear hbt h1
        rcases h3 with rfl | rfl
        · go_wp2_with (first | (go_at_call 11; refine (hsm _ HTr.out HPr.out).mono ?_; rintro e_ w6 ⟨rfl, hd_⟩; have HB6 := Aside0.mk (below_step HBr.out (Drawn0.below hd_)); clear hd_) | (go_at_call 12; refine (hus _ (Kd.C_below HC.out HB6.out)).mono ?_; rintro e_ w7 ⟨rfl, hb_⟩; have HB7 := Aside0.mk (below_step HB6.out hb_); clear hb_))
          go_ret
          exact ⟨rfl, HB7.out⟩
        · go_wp2_with (first | (go_at_call 11; refine (hsm _ HTr.out HPr.out).mono ?_; rintro e_ w6 ⟨rfl, hd_⟩; have HB6 := Aside0.mk (below_step HBr.out (Drawn0.below hd_)); clear hd_) | (go_at_call 12; refine (hus _ (Kd.C_below HC.out HB6.out)).mono ?_; rintro e_ w7 ⟨rfl, hb_⟩; have HB7 := Aside0.mk (below_step HB6.out hb_); clear hb_))
          go_ret
          exact ⟨by simp, HB7.out⟩
theorem reelkeeperlaw10_ReadSafe.calls (k : Nat) (A : Option Addr) (c : Nat) (l : List (List Int)) (r : Bool) (w : World) (hC : Kd.C (Kd.slice 5 (Kd.int .u8)) w A l.length l) (hc : l.length ≤ c) (hY : ∀ r ∈ l, byteOk r) (h : reelkeeperlaw10_ReadSafe.f k l = some r) :
    Calls Try.prog 3 #[.slice A l.length c] w fun e w' => e = .returned (.bool r) ∧ Below w.heap.size w w' := by
  obtain rfl : true = r := Option.some.inj h
  exact read_safe.at_ A c l w hC hc hY

end Go.Proofs.Ytpedagpcblnnhaa.X
