import Derived.Test.YtpedagpcblnnhaaXK
import Derived.Test.YtpedagpcblnnhaaXE31
import Derived.Test.YtpedagpcblnnhaaXE44
import Derived.Test.YtpedagpcblnnhaaXGhead
import Derived.Test.YtpedagpcblnnhaaXGpa
import Derived.Test.YtpedagpcblnnhaaXGpj
import Derived.Test.YtpedagpcblnnhaaXGrb
import Derived.Test.YtpedagpcblnnhaaXGrc
import Derived.Test.YtpedagpcblnnhaaXGrd
import Derived.Test.YtpedagpcblnnhaaXreelkeeperlaw03Few
import Derived.Test.YtpedagpcblnnhaaYAll
import Derived.Test.YtpedagpcblnnhaaP04g
import Derived.Test.YtpedagpcblnnhaaP09a
import Derived.Test.YtpedagpcblnnhaaP09b
import Derived.Test.YtpedagpcblnnhaaP09s
import Derived.Test.YtpedagpcblnnhaaP10a
import Derived.Test.YtpedagpcblnnhaaP10g
import Derived.Test.YtpedagpcblnnhaaP10k
import Derived.Test.YtpedagpcblnnhaaP10s
import Derived.Test.YtpedagpcblnnhaaP15o
import Derived.Test.YtpedagpcblnnhaaP15t
import Derived.Test.YtpedagpcblnnhaaPGA
import Derived.Test.YtpedagpcblnnhaaPGE
import Derived.Deep.RegionHeld3
import Derived.Laws.EntriesVeiled
import Derived.WalkSpells
namespace Go.Proofs.Ytpedagpcblnnhaa.X
open Go.RowKit Go.Proofs.YtpedagpcblnnhaaW.PrintWords Go.Proofs.YtpedagpcblnnhaaW.PrintLast Go.Proofs.YtpedagpcblnnhaaW.PrintMore
attribute [local go_sem] max2_int min2_int max_two min_two
set_option linter.unusedVariables false
set_option linter.unusedSimpArgs false

attribute [local go_sem high] eqA31 eqA44
open Go.Proofs.YtpedagpcblnnhaaY
set_option maxRecDepth 100000
theorem gathS_lenG : ∀ (l : List Evt) (q : List Nd) (c : Option Nd), (outOf (gathS l q c).1).length ≤ (outOf (q, c)).length + l.length
  | [], q, c => Nat.le_refl _
  | v :: l, q, c => by
    show (outOf (match takeE q c v with | some r => gathS l r.1 r.2 | none => ((q, c), false)).1).length ≤ (outOf (q, c)).length + (l.length + 1)
    have h := takeO_len (outOf (q, c)) c.isSome v
    rw [takeO_E] at h
    cases hE : takeE q c v with
    | none => show (outOf (q, c)).length ≤ _; omega
    | some r =>
      rw [hE] at h
      have h2 := gathS_lenG l r.1 r.2
      have h3 : (outOf (r.1, r.2)).length ≤ (outOf (q, c)).length + 1 := h
      show (outOf (gathS l r.1 r.2).1).length ≤ _
      omega
theorem gatherF_lenG (l : List Evt) : (gatherF l).1.length ≤ l.length := by
  have h := gathS_lenG l [] none
  have e : (outOf (([], none) : List Nd × Option Nd)).length = 0 := rfl
  rw [e, Nat.zero_add] at h
  exact h
def reelkeeperlaw10_ReadGoes.f (k : Nat) (a b : List (List Int)) : Option Bool := some true
theorem ReadGoes_told (a b : List (List Int)) : ∃ k, reelkeeperlaw10_ReadGoes.f k a b = some true := ⟨0, rfl⟩
set_option maxHeartbeats 12800000 in
theorem read_goes.at_ (A : Option Addr) (cA : Nat) (a : List (List Int)) (B : Option Addr) (cB : Nat) (b : List (List Int)) (nA nB : Nat) (hnA : a.length = nA) (hnB : b.length = nB) (w : World) (hCA : Kd.C kRw w A nA a) (hcA : nA ≤ cA) (hCB : Kd.C kRw w B nB b) (hcB : nB ≤ cB) (hbyA : ∀ x ∈ a, ∀ y ∈ x, 0 ≤ y ∧ y ≤ 255) (hbyB : ∀ x ∈ b, ∀ y ∈ x, 0 ≤ y ∧ y ≤ 255) :
    Calls Try.prog 4 #[.slice A nA cA, .slice B nB cB] w fun e w' => e = .returned (.bool true) ∧ Below w.heap.size w w' := by
  have HCA := Aside0.mk hCA
  have HCB := Aside0.mk hCB
  have HB0 := Aside0.mk (Below.refl w.heap.size w)
  have hup := fun W => awake10.at_ W
  obtain ⟨ba, hea, ha60⟩ := few3_ev a
  obtain ⟨ka, hka⟩ := Ev.rounds hea
  obtain ⟨bb, heb, hb60⟩ := few3_ev b
  obtain ⟨kb, hkb⟩ := Ev.rounds heb
  have hfa : ∀ W, Kd.C kRw W A nA a → Calls Try.prog 7 #[.slice A nA cA] W fun e w' => e = .returned (.bool ba) ∧ Drawn0 W w' := fun W hC => by
    have h_ := reelkeeperlaw03_Few.calls ka A cA a ba W (by rw [hnA]; exact hC) (by omega) hka
    rw [hnA] at h_
    exact h_
  have hfb : ∀ W, Kd.C kRw W B nB b → Calls Try.prog 7 #[.slice B nB cB] W fun e w' => e = .returned (.bool bb) ∧ Drawn0 W w' := fun W hC => by
    have h_ := reelkeeperlaw03_Few.calls kb B cB b bb W (by rw [hnB]; exact hC) (by omega) hkb
    rw [hnB] at h_
    exact h_
  clear hCA hCB hea heb hka hkb
  cases hqa : ba with
  | false =>
    rw [hqa] at hfa
    clear hqa ha60 hb60
    go_enter Try.func4, Try.ntmps4
    go_wp2_with (first | (go_at_call 6; refine (hup _).mono ?_; rintro e_ w1 ⟨rfl, hb_⟩; have HB1 := Aside0.mk (below_step HB0.out hb_); clear hb_) | (go_at_call 7; (with_reducible refine (hfa _ (Kd.C_below HCA.out HB1.out)).mono ?_); rintro e_ w2 ⟨rfl, hd_⟩; have HB2 := Aside0.mk (below_step HB1.out (Drawn0.below hd_)); clear hd_) | (go_at_call 7; (with_reducible refine (hfb _ (Kd.C_below HCB.out HB2.out)).mono ?_); rintro e_ w3 ⟨rfl, hd_⟩; have HB3 := Aside0.mk (below_step HB2.out (Drawn0.below hd_)); clear hd_))
    go_ret
    exact ⟨rfl, HB3.out⟩
  | true =>
  rw [hqa] at hfa
  cases hqb : bb with
  | false =>
    rw [hqb] at hfb
    clear hqa hqb ha60 hb60
    go_enter Try.func4, Try.ntmps4
    go_wp2_with (first | (go_at_call 6; refine (hup _).mono ?_; rintro e_ w1 ⟨rfl, hb_⟩; have HB1 := Aside0.mk (below_step HB0.out hb_); clear hb_) | (go_at_call 7; (with_reducible refine (hfa _ (Kd.C_below HCA.out HB1.out)).mono ?_); rintro e_ w2 ⟨rfl, hd_⟩; have HB2 := Aside0.mk (below_step HB1.out (Drawn0.below hd_)); clear hd_) | (go_at_call 7; (with_reducible refine (hfb _ (Kd.C_below HCB.out HB2.out)).mono ?_); rintro e_ w3 ⟨rfl, hd_⟩; have HB3 := Aside0.mk (below_step HB2.out (Drawn0.below hd_)); clear hd_))
    go_ret
    exact ⟨rfl, HB3.out⟩
  | true =>
  rw [hqb] at hfb
  have hA60 := ha60 hqa
  clear hqa hqb ha60 hb60
  by_cases h31 : 30 < nB
  · have b4 : decide ((nB : Int) > 30) = true := decide_eq_true (by omega)
    have b5 : decide ((30 : Int) < (nB : Int)) = true := decide_eq_true (by omega)
    have b6 : decide (30 < nB) = true := decide_eq_true h31
    clear h31
    go_enter Try.func4, Try.ntmps4
    go_wp2_with (first | (go_at_call 6; refine (hup _).mono ?_; rintro e_ w1 ⟨rfl, hb_⟩; have HB1 := Aside0.mk (below_step HB0.out hb_); clear hb_) | (go_at_call 7; (with_reducible refine (hfa _ (Kd.C_below HCA.out HB1.out)).mono ?_); rintro e_ w2 ⟨rfl, hd_⟩; have HB2 := Aside0.mk (below_step HB1.out (Drawn0.below hd_)); clear hd_) | (go_at_call 7; (with_reducible refine (hfb _ (Kd.C_below HCB.out HB2.out)).mono ?_); rintro e_ w3 ⟨rfl, hd_⟩; have HB3 := Aside0.mk (below_step HB2.out (Drawn0.below hd_)); clear hd_))
    go_ret
    exact ⟨rfl, HB3.out⟩
  have b4 : decide ((nB : Int) > 30) = false := decide_eq_false (by omega)
  have b5 : decide ((30 : Int) < (nB : Int)) = false := decide_eq_false (by omega)
  have b6 : decide (30 < nB) = false := decide_eq_false h31
  obtain ⟨hmore, hsame⟩ := part_more a b
  obtain ⟨mAB, hmAB⟩ : ∃ k, (a ++ b).length = k := ⟨_, rfl⟩
  have hmAB2 : mAB = nA + nB := by rw [← hmAB, List.length_append, hnA, hnB]
  have hct := run_count a
  have hlen := gatherF_lenG (runR st0 a).2.1
  have hpt0 := fun W hC => read_Part.at_ A cA a (by omega) W hC (by omega) hbyA
  have hpt20 := fun A' c' W hC hc => read_Part.at_ A' c' (a ++ b) (by omega) W hC hc (fun x hx => (List.mem_append.1 hx).elim (hbyA x) (hbyB x))
  unfold partR at hpt0 hpt20
  have hlt1000 : (gatherF (runR st0 a).2.1).1.length ≤ 1000 := by omega
  generalize (gatherF (runR st0 a).2.1).1 = t at *
  generalize (runR st0 a).2.2.2 = e0 at *
  generalize (gatherF (runR st0 (a ++ b)).2.1).1 = u at *
  generalize (runR st0 (a ++ b)).2.2.2 = e1 at *
  obtain ⟨hm1, hm2⟩ := more_at hmore
  obtain ⟨tL, htL⟩ : ∃ k, t.length = k := ⟨_, rfl⟩
  obtain ⟨uL, huL⟩ : ∃ k, u.length = k := ⟨_, rfl⟩
  try simp only at hpt0
  try simp only at hpt20
  have hpt : ∀ W, Kd.C kRw W A nA a → Calls Try.prog 9 #[.slice A nA cA] W fun e w' => ∃ A' c', e = .returned (.tuple #[.slice A' tL c', .int .i64 e0]) ∧ Aside0 (Kd.R kNd 31 w' W.heap.size (fun _ => True) (.slice A' tL c') t) ∧ Below W.heap.size W w' := fun W hC => by
    have h_ := hpt0 W (by rw [hnA]; exact hC)
    rw [htL, hnA] at h_
    exact h_
  have hpt2 : ∀ A' c' W, Kd.C kRw W A' mAB (a ++ b) → mAB ≤ c' → Calls Try.prog 9 #[.slice A' mAB c'] W fun e w' => ∃ A' c', e = .returned (.tuple #[.slice A' uL c', .int .i64 e1]) ∧ Aside0 (Kd.R kNd 31 w' W.heap.size (fun _ => True) (.slice A' uL c') u) ∧ Below W.heap.size W w' := fun A' c' W hC hc => by
    have h_ := hpt20 A' c' W (by rw [hmAB]; exact hC) (by omega)
    rw [huL, hmAB] at h_
    exact h_
  rw [htL] at hm1 hm2 hlt1000
  rw [huL] at hm1
  have HMO := Aside0.mk (show True ∧ tL ≤ uL ∧ _ from ⟨trivial, hm1, hm2⟩)
  have HTL9 := Aside0.mk hlt1000
  have HTT := Aside0.mk htL
  have HUU := Aside0.mk huL
  have HNA := Aside0.mk (show nA ≤ 60 ∧ nB ≤ 30 by omega)
  have HM5 := Aside0.mk hmAB
  have HAL := Aside0.mk hnA
  have HBL := Aside0.mk hnB
  have c1 : decide ((uL : Int) < (tL : Int)) = false := decide_eq_false (by omega)
  have c2 : decide (uL < tL) = false := decide_eq_false (by omega)
  have c3 : e0 ≠ 0 → ((uL : Int) != (tL : Int)) = false := fun h => by rw [← huL, ← htL, hsame h]; simp
  have c4 : e0 ≠ 0 → (uL != tL) = false := fun h => by rw [← huL, ← htL, hsame h]; simp
  have HC34 := Aside0.mk (And.intro c3 c4)
  clear c3 c4 hm1 hm2 hlt1000 htL huL hmAB hmAB2 hnA hnB h31 hA60 hmore hsame hct hlen hpt0 hpt20 hbyA hbyB
  go_enter Try.func4, Try.ntmps4
  go_upto_region 6 with (first | (go_at_call 6; refine (hup _).mono ?_; rintro e_ w1 ⟨rfl, hb_⟩; have HB1 := Aside0.mk (below_step HB0.out hb_); clear hb_) | (go_at_call 7; (with_reducible refine (hfa _ (Kd.C_below HCA.out HB1.out)).mono ?_); rintro e_ w2 ⟨rfl, hd_⟩; have HB2 := Aside0.mk (below_step HB1.out (Drawn0.below hd_)); clear hd_) | (go_at_call 7; (with_reducible refine (hfb _ (Kd.C_below HCB.out HB2.out)).mono ?_); rintro e_ w3 ⟨rfl, hd_⟩; have HB3 := Aside0.mk (below_step HB2.out (Drawn0.below hd_)); clear hd_))
  go_upto_region 7 with (go_at_call 9; refine (hpt _ (Kd.C_below HCA.out HB3.out)).mono ?_; rintro e_ w4 ⟨A4, c4, rfl, hR, hb_⟩; have HB4 := Aside0.mk (below_step HB3.out hb_); have HT4 := Aside0.mk (Kd.R_reads' hR.out).2.2; clear hb_ hR)
  obtain ⟨ts, hts, hft⟩ := rows_split (Kd.C_below HCA.out HB4.out)
  obtain ⟨us, hus, hfu⟩ := rows_split (Kd.C_below HCB.out HB4.out)
  have HTL := Aside0.mk (show ts.length = nA from hts.1)
  have HM5T := Aside0.mk (show (ts ++ us).length = mAB by rw [List.length_append, show ts.length = nA from hts.1, show us.length = nB from hus.1, ← HM5.out, List.length_append, HAL.out, HBL.out])
  have HTS := Aside0.mk hts
  have HUS := Aside0.mk hus
  have HFT := Aside0.mk hft
  have HFU := Aside0.mk hfu
  clear hts hus hft hfu hup hfa hfb hpt
  go_upto_region 8 with (first | ((with_reducible refine gate_builtin (b := .append) (xs := #[(.const (.slice none 0 0)), (.tmp 41)]) rfl ?_); go_must (refine Kd.R_append_row encT ((none, 0, 0) : Tr) (h1 := encT_one) (w0 := w4) w4.heap.size rfl (.const (.slice none 0 0)) (.tmp 41) 22 42 (.slice none 0 0) 24 rfl Try.underlying22 info42 rfl (by decide) _ [] ts A nA cA (fun _ => True) rfl rfl (fun _ _ => trivial) (Kd.R_nil kTr _ _ _ _) HTS.out (Below.refl _ _) (Nat.le_refl _) (by have h_ := HNA.out; simp; omega) ?_); intro v1 w5 hO hB hg hat; obtain ⟨A5, c5, rfl⟩ := Kd.R_slice hO; simp only [List.nil_append] at hO; rw [HTL.out] at hO; simp only [List.nil_append]; rw [HTL.out]; have HO5 := Aside0.mk hO; have HBB5 := Aside0.mk hB; clear hO hB hg hat) | ((with_reducible refine gate_builtin (b := .append) (xs := #[(.tmp 42), (.tmp 43)]) rfl ?_); go_must (refine Kd.R_append_row encT ((none, 0, 0) : Tr) (h1 := encT_one) (w0 := w4) w4.heap.size rfl (.tmp 42) (.tmp 43) 22 42 (.slice none 0 0) 24 rfl Try.underlying22 info42 rfl (by decide) _ ts us B nB cB (fun _ => True) rfl rfl (fun _ _ => trivial) HO5.out (Kd.C_below HUS.out HBB5.out) HBB5.out HBB5.out.size (by have h_ := HNA.out; have h2 := HTL.out; omega) ?_); intro v2 w6 hO hB hg hat; obtain ⟨A6, c6, rfl, hc6, hC6⟩ := Kd.R_reads hO; have hC6 := rows_join hC6 (forall_app (forall_below hB HFT.out) (forall_below hB HFU.out)); rw [HM5T.out] at hC6 hc6 ⊢; have HC6 := Aside0.mk hC6; have HL6 := Aside0.mk hc6; have HBB6 := Aside0.mk hB; clear hO hB hg hat hC6 hc6) | (go_at_call 9; refine (hpt2 _ _ _ HC6.out HL6.out).mono ?_; rintro e_ w7 ⟨A7, c7, rfl, hR, hb_⟩; have HBB7 := Aside0.mk (below_step HBB6.out hb_); have HU7 := Aside0.mk (Kd.R_reads' hR.out).2.2; clear hb_ hR))
  have HB9 := Aside0.mk (below_step HB4.out HBB7.out)
  have HT9 := Aside0.mk (show Kd.C kNd w7 A4 tL t by have h_ := Kd.C_below HT4.out HBB7.out; rw [HTT.out] at h_; exact h_)
  have HU9 := Aside0.mk (show Kd.C kNd w7 A7 uL u by have h_ := HU7.out; rw [HUU.out] at h_; exact h_)
  clear HB4 HT4 HU7 HBB7 HBB6 HBB5 HO5 HC6 HL6 HTS HUS HFT HFU HM5T HTL hpt2
  go_upto_region 8 with (fail)
  go_cut [63] (fun v63 wc => v63 = .bool false ∧ wc = w7)
  case first =>
    by_cases h0 : e0 = 0
    · subst h0
      go_wp2_with (fail)
      go_meet
      case rel => exact ⟨rfl, rfl⟩
    · have b0 : (e0 != 0) = true := by simp only [bne, beq_eq_false_iff_ne.2 h0]; rfl
      have c3 := HC34.out.1 h0
      have c4 := HC34.out.2 h0
      clear h0
      go_wp2_with (fail)
      go_meet
      case rel => exact ⟨rfl, rfl⟩
  case rest =>
  obtain ⟨rfl, rfl⟩ := hcut
  go_wp2_with (fail)
  go_loopw [12] (fun v12 wr => ∃ i : Nat, v12 = .int .i64 i ∧ i ≤ tL ∧ Aside0 (Below w.heap.size w wr) ∧ Aside0 (Kd.C kNd wr A4 tL t) ∧ Aside0 (Kd.C kNd wr A7 uL u)) (fun v12 _ => tL - (intOf v12).toNat)
  case atStart => exact ⟨0, rfl, Nat.zero_le _, HB9, HT9, HU9⟩
  case round =>
    obtain ⟨i, rfl, hi, HBr, HTr, HUr⟩ := hrel
    clear HB9 HT9 HU9
    by_cases hlt : i < tL
    · obtain ⟨y, d, hy, hu, hd⟩ := HMO.out.2.2 i hlt
      obtain ⟨ad, rfl, l0, l1, l2, l3, l4, l5, l6, l7⟩ := nd_cells HTr.out hlt _ hy
      obtain ⟨ae, rfl, k0, k1, k2, k3, k4, k5, k6, k7⟩ := nd_cells HUr.out (Nat.lt_of_lt_of_le hlt HMO.out.2.1) _ hu
      obtain ⟨y0, y1, y2, y3, y4, y5, y6, y7⟩ := y
      obtain ⟨D, hD⟩ : ∃ D, y7 ++ d = D := ⟨_, rfl⟩
      have hcut : D.extract 0 y7.size = y7 := by rw [← hD]; exact addD_cut y7 d
      have hsz : y7.size ≤ D.size := by rw [← hD, ByteArray.size_append]; omega
      replace k0 : wr.cell? (ae.add (i * 8)) = some (.string y0) := k0
      replace k1 : wr.cell? ⟨(ae.add (i * 8)).block, (ae.add (i * 8)).off + 1, none⟩ = some (.string y1) := k1
      replace k2 : wr.cell? ⟨(ae.add (i * 8)).block, (ae.add (i * 8)).off + 2, none⟩ = some (.int .u8 y2) := k2
      replace k3 : wr.cell? ⟨(ae.add (i * 8)).block, (ae.add (i * 8)).off + 3, none⟩ = some (.int .i64 y3) := k3
      replace k4 : wr.cell? ⟨(ae.add (i * 8)).block, (ae.add (i * 8)).off + 4, none⟩ = some (.int .i64 y4) := k4
      replace k5 : wr.cell? ⟨(ae.add (i * 8)).block, (ae.add (i * 8)).off + 5, none⟩ = some (.int .i64 y5) := k5
      replace k6 : wr.cell? ⟨(ae.add (i * 8)).block, (ae.add (i * 8)).off + 6, none⟩ = some (.int .i64 y6) := k6
      replace k7 : wr.cell? ⟨(ae.add (i * 8)).block, (ae.add (i * 8)).off + 7, none⟩ = some (.string D) := by rw [← hD]; exact k7
      have hDd : i + 1 < tL → D = y7 := fun h => by rw [← hD, hd h]; exact ByteArray.append_empty
      clear hy hu hd hD
      obtain ⟨p, hp⟩ : ∃ p, p + 1 = tL := ⟨tL - 1, by omega⟩
      have hi1 : (i : Int) < (tL : Int) := by omega
      have hi2 : (i : Int) < (uL : Int) := by have h_ := HMO.out.2.1; omega
      have hi0 : (0 : Int) ≤ (i : Int) := by omega
      have hw : IntKind.i64.wrap ((i : Int) + 1) = ((i + 1 : Nat) : Int) := by have h_ := HTL9.out; rw [i64_w, wrap_id (by omega) (by omega)]; omega
      have hw2 : IntKind.i64.wrap ((tL : Int) - 1) = (p : Int) := by have h_ := HTL9.out; rw [i64_w, wrap_id (by omega) (by omega)]; omega
      have s1 : decide ((D.size : Int) < (y7.size : Int)) = false := decide_eq_false (by omega)
      have s2 : decide (D.size < y7.size) = false := decide_eq_false (by omega)
      have s3 : (0 : Int) ≤ (y7.size : Int) := by omega
      have s4 : (y7.size : Int) ≤ (D.size : Int) := by omega
      go_upto_region 14 with (fail)
      have HB5 := Aside0.mk (below_alloc HBr.out (.cells #[.string y0, .string y1, .int .u8 y2, .int .i64 y3, .int .i64 y4, .int .i64 y5, .int .i64 y6, .string D] 31))
      have HW5 := Aside0.mk (below_alloc (Below.refl wr.heap.size wr) (.cells #[.string y0, .string y1, .int .u8 y2, .int .i64 y3, .int .i64 y4, .int .i64 y5, .int .i64 y6, .string D] 31))
      have HX5 := Aside0.mk (heap_alloc_new wr (.cells #[.string y0, .string y1, .int .u8 y2, .int .i64 y3, .int .i64 y4, .int .i64 y5, .int .i64 y6, .string D] 31))
      have HGE := Aside0.mk HBr.out.size
      obtain ⟨W5, hW_⟩ : ∃ W', wr.alloc (.cells #[.string y0, .string y1, .int .u8 y2, .int .i64 y3, .int .i64 y4, .int .i64 y5, .int .i64 y6, .string D] 31) = W' := ⟨_, rfl⟩
      rw [hW_] at HB5 HW5 HX5 ⊢
      obtain ⟨g, hg_⟩ : ∃ k, wr.heap.size = k := ⟨_, rfl⟩
      have HGW := Aside0.mk hg_
      have HLF : Aside0 (∀ W, Below g wr W → W.cell? (ad.add (i * 8)) = some (.string y0) ∧ W.cell? ⟨(ad.add (i * 8)).block, (ad.add (i * 8)).off + 1, none⟩ = some (.string y1) ∧ W.cell? ⟨(ad.add (i * 8)).block, (ad.add (i * 8)).off + 2, none⟩ = some (.int .u8 y2) ∧ W.cell? ⟨(ad.add (i * 8)).block, (ad.add (i * 8)).off + 3, none⟩ = some (.int .i64 y3) ∧ W.cell? ⟨(ad.add (i * 8)).block, (ad.add (i * 8)).off + 4, none⟩ = some (.int .i64 y4) ∧ W.cell? ⟨(ad.add (i * 8)).block, (ad.add (i * 8)).off + 5, none⟩ = some (.int .i64 y5) ∧ W.cell? ⟨(ad.add (i * 8)).block, (ad.add (i * 8)).off + 6, none⟩ = some (.int .i64 y6) ∧ W.cell? ⟨(ad.add (i * 8)).block, (ad.add (i * 8)).off + 7, none⟩ = some (.string y7)) := ⟨fun W hb => by rw [← hg_] at hb; exact ⟨pw_cell_below hb l0, pw_cell_below hb l1, pw_cell_below hb l2, pw_cell_below hb l3, pw_cell_below hb l4, pw_cell_below hb l5, pw_cell_below hb l6, pw_cell_below hb l7⟩⟩
      rw [hg_] at HW5 HX5 HGE ⊢
      clear hW_ hg_ k0 k1 k2 k3 k4 k5 k6 k7 l0 l1 l2 l3 l4 l5 l6 l7
      obtain ⟨l0, l1, l2, l3, l4, l5, l6, l7⟩ := HLF.out _ HW5.out
      by_cases hip : i < p
      · have h7 := (hDd (by omega)).symm
        subst h7
        obtain ⟨x0, x1, x2, x3, x4, x5, x6, x7⟩ := cells8 HX5.out
        have p1 : decide ((i : Int) < (p : Int)) = true := decide_eq_true (by omega)
        have p2 : decide (i < p) = true := decide_eq_true hip
        clear hDd
        refine start_ (n := 25) (S := fun w' => w'.cell? ⟨g, 0, none⟩ = some (.string y0) ∧ w'.cell? ⟨g, 1, none⟩ = some (.string y1) ∧ w'.cell? ⟨g, 2, none⟩ = some (.int .u8 y2) ∧ w'.cell? ⟨g, 3, none⟩ = some (.int .i64 y3) ∧ w'.cell? ⟨g, 4, none⟩ = some (.int .i64 y4) ∧ w'.cell? ⟨g, 5, none⟩ = some (.int .i64 y5) ∧ w'.cell? ⟨g, 6, none⟩ = some (.int .i64 y6) ∧ w'.cell? ⟨g, 7, none⟩ = some (.string y7) ∧ w'.cell? (ad.add (i * 8)) = some (.string y0) ∧ w'.cell? ⟨(ad.add (i * 8)).block, (ad.add (i * 8)).off + 1, none⟩ = some (.string y1) ∧ w'.cell? ⟨(ad.add (i * 8)).block, (ad.add (i * 8)).off + 2, none⟩ = some (.int .u8 y2) ∧ w'.cell? ⟨(ad.add (i * 8)).block, (ad.add (i * 8)).off + 3, none⟩ = some (.int .i64 y3) ∧ w'.cell? ⟨(ad.add (i * 8)).block, (ad.add (i * 8)).off + 4, none⟩ = some (.int .i64 y4) ∧ w'.cell? ⟨(ad.add (i * 8)).block, (ad.add (i * 8)).off + 5, none⟩ = some (.int .i64 y5) ∧ w'.cell? ⟨(ad.add (i * 8)).block, (ad.add (i * 8)).off + 6, none⟩ = some (.int .i64 y6) ∧ w'.cell? ⟨(ad.add (i * 8)).block, (ad.add (i * 8)).off + 7, none⟩ = some (.string y7)) (ds := []) #[false, false, false, false, false, false, false, false, false, false, false, false, false, false, false, false, false, false, false, false, false, false, false, false, false] (by as_aux_lemma => kernel_rfl) rfl rfl ⟨x0, x1, x2, x3, x4, x5, x6, x7, l0, l1, l2, l3, l4, l5, l6, l7⟩ (fun hHeld => ?_)
        refine pure_ (i := 0) (N := some 74) (v := ?_) (a' := ?_) #[true, false, false, false, false, false, false, false, false, false, false, false, false, false, false, false, false, false, false, false, false, false, false, false, false] rfl rfl (by as_aux_lemma => kernel_rfl) (fun _ _ _ h => h) (Or.inl ⟨by rfl, ?_⟩) ?_ ?_
        rotate_left
        · intro w'
          go_simp
          with_reducible rfl
        rotate_left
        · simp only [Act.put, List.setIfInBounds_toArray, List.set_cons_zero, List.set_cons_succ, i64_w, i32_w]
          rfl
        refine take_ (i := 1) (N := some 75) (v := ?_) (a' := ?_) #[true, true, false, false, false, false, false, false, false, false, false, false, false, false, false, false, false, false, false, false, false, false, false, false, false] rfl rfl (by as_aux_lemma => kernel_rfl) (fun _ _ _ h => h) (Or.inl ⟨by rfl, ?_⟩) hHeld ?_ ?_
        rotate_left
        · rintro w' ⟨s0, s1, s2, s3, s4, s5, s6, s7, s8, s9, s10, s11, s12, s13, s14, s15⟩
          go_simp
          with_reducible rfl
        rotate_left
        · simp only [Act.put, List.setIfInBounds_toArray, List.set_cons_zero, List.set_cons_succ, i64_w, i32_w]
          rfl
        refine pure_ (i := 2) (N := some 76) (v := ?_) (a' := ?_) #[true, true, true, false, false, false, false, false, false, false, false, false, false, false, false, false, false, false, false, false, false, false, false, false, false] rfl rfl (by as_aux_lemma => kernel_rfl) (fun _ _ _ h => h) (Or.inl ⟨by rfl, ?_⟩) ?_ ?_
        rotate_left
        · intro w'
          go_simp
          with_reducible rfl
        rotate_left
        · simp only [Act.put, List.setIfInBounds_toArray, List.set_cons_zero, List.set_cons_succ, i64_w, i32_w]
          rfl
        refine pure_ (i := 3) (N := some 77) (v := ?_) (a' := ?_) #[true, true, true, true, false, false, false, false, false, false, false, false, false, false, false, false, false, false, false, false, false, false, false, false, false] rfl rfl (by as_aux_lemma => kernel_rfl) (fun _ _ _ h => h) (Or.inl ⟨by rfl, ?_⟩) ?_ ?_
        rotate_left
        · intro w'
          go_simp
          with_reducible rfl
        rotate_left
        · simp only [Act.put, List.setIfInBounds_toArray, List.set_cons_zero, List.set_cons_succ, i64_w, i32_w]
          rfl
        refine pure_ (i := 4) (N := some 78) (v := ?_) (a' := ?_) #[true, true, true, true, true, false, false, false, false, false, false, false, false, false, false, false, false, false, false, false, false, false, false, false, false] rfl rfl (by as_aux_lemma => kernel_rfl) (fun _ _ _ h => h) (Or.inl ⟨by rfl, ?_⟩) ?_ ?_
        rotate_left
        · intro w'
          go_simp
          with_reducible rfl
        rotate_left
        · simp only [Act.put, List.setIfInBounds_toArray, List.set_cons_zero, List.set_cons_succ, i64_w, i32_w]
          rfl
        refine pure_ (i := 5) (N := some 79) (v := ?_) (a' := ?_) #[true, true, true, true, true, true, false, false, false, false, false, false, false, false, false, false, false, false, false, false, false, false, false, false, false] rfl rfl (by as_aux_lemma => kernel_rfl) (fun _ _ _ h => h) (Or.inl ⟨by rfl, ?_⟩) ?_ ?_
        rotate_left
        · intro w'
          go_simp
          with_reducible rfl
        rotate_left
        · simp only [Act.put, List.setIfInBounds_toArray, List.set_cons_zero, List.set_cons_succ, i64_w, i32_w]
          rfl
        refine pure_ (i := 6) (N := some 80) (v := ?_) (a' := ?_) #[true, true, true, true, true, true, true, false, false, false, false, false, false, false, false, false, false, false, false, false, false, false, false, false, false] rfl rfl (by as_aux_lemma => kernel_rfl) (fun _ _ _ h => h) (Or.inl ⟨by rfl, ?_⟩) ?_ ?_
        rotate_left
        · intro w'
          go_simp
          with_reducible rfl
        rotate_left
        · simp only [Act.put, List.setIfInBounds_toArray, List.set_cons_zero, List.set_cons_succ, i64_w, i32_w]
          rfl
        refine take_ (i := 7) (N := some 81) (v := ?_) (a' := ?_) #[true, true, true, true, true, true, true, true, false, false, false, false, false, false, false, false, false, false, false, false, false, false, false, false, false] rfl rfl (by as_aux_lemma => kernel_rfl) (fun _ _ _ h => h) (Or.inl ⟨by rfl, ?_⟩) hHeld ?_ ?_
        rotate_left
        · rintro w' ⟨s0, s1, s2, s3, s4, s5, s6, s7, s8, s9, s10, s11, s12, s13, s14, s15⟩
          go_simp
          with_reducible rfl
        rotate_left
        · simp only [Act.put, List.setIfInBounds_toArray, List.set_cons_zero, List.set_cons_succ, i64_w, i32_w]
          rfl
        refine pure_ (i := 8) (N := some 82) (v := ?_) (a' := ?_) #[true, true, true, true, true, true, true, true, true, false, false, false, false, false, false, false, false, false, false, false, false, false, false, false, false] rfl rfl (by as_aux_lemma => kernel_rfl) (fun _ _ _ h => h) (Or.inl ⟨by rfl, ?_⟩) ?_ ?_
        rotate_left
        · intro w'
          go_simp
          with_reducible rfl
        rotate_left
        · simp only [Act.put, List.setIfInBounds_toArray, List.set_cons_zero, List.set_cons_succ, i64_w, i32_w]
          rfl
        refine pure_ (i := 9) (N := some 83) (v := ?_) (a' := ?_) #[true, true, true, true, true, true, true, true, true, true, false, false, false, false, false, false, false, false, false, false, false, false, false, false, false] rfl rfl (by as_aux_lemma => kernel_rfl) (fun _ _ _ h => h) (Or.inl ⟨by rfl, ?_⟩) ?_ ?_
        rotate_left
        · intro w'
          go_simp
          with_reducible rfl
        rotate_left
        · simp only [Act.put, List.setIfInBounds_toArray, List.set_cons_zero, List.set_cons_succ, i64_w, i32_w]
          rfl
        refine pure_ (i := 10) (N := some 84) (v := ?_) (a' := ?_) #[true, true, true, true, true, true, true, true, true, true, true, false, false, false, false, false, false, false, false, false, false, false, false, false, false] rfl rfl (by as_aux_lemma => kernel_rfl) (fun _ _ _ h => h) (Or.inl ⟨by rfl, ?_⟩) ?_ ?_
        rotate_left
        · intro w'
          go_simp
          with_reducible rfl
        rotate_left
        · simp only [Act.put, List.setIfInBounds_toArray, List.set_cons_zero, List.set_cons_succ, i64_w, i32_w]
          rfl
        refine pure_ (i := 11) (N := some 85) (v := ?_) (a' := ?_) #[true, true, true, true, true, true, true, true, true, true, true, true, false, false, false, false, false, false, false, false, false, false, false, false, false] rfl rfl (by as_aux_lemma => kernel_rfl) (fun _ _ _ h => h) (Or.inl ⟨by rfl, ?_⟩) ?_ ?_
        rotate_left
        · intro w'
          go_simp
          with_reducible rfl
        rotate_left
        · simp only [Act.put, List.setIfInBounds_toArray, List.set_cons_zero, List.set_cons_succ, i64_w, i32_w]
          rfl
        refine pure_ (i := 12) (N := some 86) (v := ?_) (a' := ?_) #[true, true, true, true, true, true, true, true, true, true, true, true, true, false, false, false, false, false, false, false, false, false, false, false, false] rfl rfl (by as_aux_lemma => kernel_rfl) (fun _ _ _ h => h) (Or.inl ⟨by rfl, ?_⟩) ?_ ?_
        rotate_left
        · intro w'
          go_simp
          with_reducible rfl
        rotate_left
        · simp only [Act.put, List.setIfInBounds_toArray, List.set_cons_zero, List.set_cons_succ, i64_w, i32_w]
          rfl
        refine pure_ (i := 13) (N := some 87) (v := ?_) (a' := ?_) #[true, true, true, true, true, true, true, true, true, true, true, true, true, true, false, false, false, false, false, false, false, false, false, false, false] rfl rfl (by as_aux_lemma => kernel_rfl) (fun _ _ _ h => h) (Or.inl ⟨by rfl, ?_⟩) ?_ ?_
        rotate_left
        · intro w'
          go_simp
          with_reducible rfl
        rotate_left
        · simp only [Act.put, List.setIfInBounds_toArray, List.set_cons_zero, List.set_cons_succ, i64_w, i32_w]
          rfl
        refine pure_ (i := 14) (N := some 88) (v := ?_) (a' := ?_) #[true, true, true, true, true, true, true, true, true, true, true, true, true, true, true, false, false, false, false, false, false, false, false, false, false] rfl rfl (by as_aux_lemma => kernel_rfl) (fun _ _ _ h => h) (Or.inl ⟨by rfl, ?_⟩) ?_ ?_
        rotate_left
        · intro w'
          go_simp
          with_reducible rfl
        rotate_left
        · simp only [Act.put, List.setIfInBounds_toArray, List.set_cons_zero, List.set_cons_succ, i64_w, i32_w]
          rfl
        refine pure_ (i := 15) (N := some 89) (v := ?_) (a' := ?_) #[true, true, true, true, true, true, true, true, true, true, true, true, true, true, true, true, false, false, false, false, false, false, false, false, false] rfl rfl (by as_aux_lemma => kernel_rfl) (fun _ _ _ h => h) (Or.inl ⟨by rfl, ?_⟩) ?_ ?_
        rotate_left
        · intro w'
          go_simp
          with_reducible rfl
        rotate_left
        · simp only [Act.put, List.setIfInBounds_toArray, List.set_cons_zero, List.set_cons_succ, i64_w, i32_w]
          rfl
        refine pure_ (i := 16) (N := some 90) (v := ?_) (a' := ?_) #[true, true, true, true, true, true, true, true, true, true, true, true, true, true, true, true, true, false, false, false, false, false, false, false, false] rfl rfl (by as_aux_lemma => kernel_rfl) (fun _ _ _ h => h) (Or.inl ⟨by rfl, ?_⟩) ?_ ?_
        rotate_left
        · intro w'
          go_simp
          with_reducible rfl
        rotate_left
        · simp only [Act.put, List.setIfInBounds_toArray, List.set_cons_zero, List.set_cons_succ, i64_w, i32_w]
          rfl
        refine take_ (i := 17) (N := some 91) (v := ?_) (a' := ?_) #[true, true, true, true, true, true, true, true, true, true, true, true, true, true, true, true, true, true, false, false, false, false, false, false, false] rfl rfl (by as_aux_lemma => kernel_rfl) (fun _ _ _ h => h) (Or.inl ⟨by rfl, ?_⟩) hHeld ?_ ?_
        rotate_left
        · rintro w' ⟨s0, s1, s2, s3, s4, s5, s6, s7, s8, s9, s10, s11, s12, s13, s14, s15⟩
          go_simp
          with_reducible rfl
        rotate_left
        · simp only [Act.put, List.setIfInBounds_toArray, List.set_cons_zero, List.set_cons_succ, i64_w, i32_w]
          rfl
        refine pure_ (i := 18) (N := some 92) (v := ?_) (a' := ?_) #[true, true, true, true, true, true, true, true, true, true, true, true, true, true, true, true, true, true, true, false, false, false, false, false, false] rfl rfl (by as_aux_lemma => kernel_rfl) (fun _ _ _ h => h) (Or.inl ⟨by rfl, ?_⟩) ?_ ?_
        rotate_left
        · intro w'
          go_simp
          with_reducible rfl
        rotate_left
        · simp only [Act.put, List.setIfInBounds_toArray, List.set_cons_zero, List.set_cons_succ, i64_w, i32_w]
          rfl
        refine pure_ (i := 19) (N := some 93) (v := ?_) (a' := ?_) #[true, true, true, true, true, true, true, true, true, true, true, true, true, true, true, true, true, true, true, true, false, false, false, false, false] rfl rfl (by as_aux_lemma => kernel_rfl) (fun _ _ _ h => h) (Or.inl ⟨by rfl, ?_⟩) ?_ ?_
        rotate_left
        · intro w'
          go_simp
          with_reducible rfl
        rotate_left
        · simp only [Act.put, List.setIfInBounds_toArray, List.set_cons_zero, List.set_cons_succ, i64_w, i32_w]
          rfl
        refine pure_ (i := 20) (N := some 94) (v := ?_) (a' := ?_) #[true, true, true, true, true, true, true, true, true, true, true, true, true, true, true, true, true, true, true, true, true, false, false, false, false] rfl rfl (by as_aux_lemma => kernel_rfl) (fun _ _ _ h => h) (Or.inl ⟨by rfl, ?_⟩) ?_ ?_
        rotate_left
        · intro w'
          go_simp
          with_reducible rfl
        rotate_left
        · simp only [Act.put, List.setIfInBounds_toArray, List.set_cons_zero, List.set_cons_succ, i64_w, i32_w]
          rfl
        refine take_ (i := 21) (N := some 95) (v := ?_) (a' := ?_) #[true, true, true, true, true, true, true, true, true, true, true, true, true, true, true, true, true, true, true, true, true, true, false, false, false] rfl rfl (by as_aux_lemma => kernel_rfl) (fun _ _ _ h => h) (Or.inl ⟨by rfl, ?_⟩) hHeld ?_ ?_
        rotate_left
        · rintro w' ⟨s0, s1, s2, s3, s4, s5, s6, s7, s8, s9, s10, s11, s12, s13, s14, s15⟩
          go_simp
          with_reducible rfl
        rotate_left
        · simp only [Act.put, List.setIfInBounds_toArray, List.set_cons_zero, List.set_cons_succ, i64_w, i32_w]
          rfl
        refine pure_ (i := 22) (N := some 96) (v := ?_) (a' := ?_) #[true, true, true, true, true, true, true, true, true, true, true, true, true, true, true, true, true, true, true, true, true, true, true, false, false] rfl rfl (by as_aux_lemma => kernel_rfl) (fun _ _ _ h => h) (Or.inl ⟨by rfl, ?_⟩) ?_ ?_
        rotate_left
        · intro w'
          go_simp
          with_reducible rfl
        rotate_left
        · simp only [Act.put, List.setIfInBounds_toArray, List.set_cons_zero, List.set_cons_succ, i64_w, i32_w]
          rfl
        refine pure_ (i := 23) (N := some 97) (v := ?_) (a' := ?_) #[true, true, true, true, true, true, true, true, true, true, true, true, true, true, true, true, true, true, true, true, true, true, true, true, false] rfl rfl (by as_aux_lemma => kernel_rfl) (fun _ _ _ h => h) (Or.inl ⟨by rfl, ?_⟩) ?_ ?_
        rotate_left
        · intro w'
          go_simp
          with_reducible rfl
        rotate_left
        · simp only [Act.put, List.setIfInBounds_toArray, List.set_cons_zero, List.set_cons_succ, i64_w, i32_w]
          rfl
        refine pure_ (i := 24) (N := some 98) (v := ?_) (a' := ?_) #[true, true, true, true, true, true, true, true, true, true, true, true, true, true, true, true, true, true, true, true, true, true, true, true, true] rfl rfl (by as_aux_lemma => kernel_rfl) (fun _ _ _ h => h) (Or.inl ⟨by rfl, ?_⟩) ?_ ?_
        rotate_left
        · intro w'
          go_simp
          with_reducible rfl
        rotate_left
        · simp only [Act.put, List.setIfInBounds_toArray, List.set_cons_zero, List.set_cons_succ, i64_w, i32_w]
          rfl
        refine done_ (by as_aux_lemma => kernel_rfl) ?_
        have HB6 := Aside0.mk (below_drew1 HB5.out)
        have HW6 := Aside0.mk (below_drew1 HW5.out)
        have HX6 := Aside0.mk (blk_drew HX5.out)
        obtain ⟨W6, hW_⟩ : ∃ W', W5.drew = W' := ⟨_, rfl⟩
        rw [hW_] at HB6 HW6 HX6 ⊢
        clear hW_ HB5 HW5 HX5 x0 x1 x2 x3 x4 x5 x6 x7 l0 l1 l2 l3 l4 l5 l6 l7
        obtain ⟨x0, x1, x2, x3, x4, x5, x6, x7⟩ := cells8 HX6.out
        obtain ⟨l0, l1, l2, l3, l4, l5, l6, l7⟩ := HLF.out _ HW6.out
        have yz := blk_frozen HX6.out 7
        go_upto_region 16 with (fail)
        refine start_ (n := 11) (S := fun w' => w'.cell? ⟨g, 7, none⟩ = some (.string y7) ∧ w'.cell? ⟨(ad.add (i * 8)).block, (ad.add (i * 8)).off + 7, none⟩ = some (.string y7)) (ds := [10]) #[false, false, false, false, false, false, false, false, false, false, false] (by as_aux_lemma => kernel_rfl) rfl rfl ⟨x7, l7⟩ (fun hHeld => ?_)
        refine pure_ (i := 0) (N := some 99) (v := ?_) (a' := ?_) #[true, false, false, false, false, false, false, false, false, false, false] rfl rfl (by as_aux_lemma => kernel_rfl) (fun _ _ _ h => h) (Or.inl ⟨by rfl, ?_⟩) ?_ ?_
        rotate_left
        · intro w'
          go_simp
          with_reducible rfl
        rotate_left
        · simp only [Act.put, List.setIfInBounds_toArray, List.set_cons_zero, List.set_cons_succ, i64_w, i32_w]
          rfl
        refine take_ (i := 1) (N := some 100) (v := ?_) (a' := ?_) #[true, true, false, false, false, false, false, false, false, false, false] rfl rfl (by as_aux_lemma => kernel_rfl) (fun _ _ _ h => h) (Or.inl ⟨by rfl, ?_⟩) hHeld ?_ ?_
        rotate_left
        · rintro w' ⟨s0, s1⟩
          go_simp
          with_reducible rfl
        rotate_left
        · simp only [Act.put, List.setIfInBounds_toArray, List.set_cons_zero, List.set_cons_succ, i64_w, i32_w]
          rfl
        refine pure_ (i := 2) (N := some 101) (v := ?_) (a' := ?_) #[true, true, true, false, false, false, false, false, false, false, false] rfl rfl (by as_aux_lemma => kernel_rfl) (fun _ _ _ h => h) (Or.inl ⟨by rfl, ?_⟩) ?_ ?_
        rotate_left
        · intro w'
          go_simp
          with_reducible rfl
        rotate_left
        · simp only [Act.put, List.setIfInBounds_toArray, List.set_cons_zero, List.set_cons_succ, i64_w, i32_w]
          rfl
        refine pure_ (i := 3) (N := some 102) (v := ?_) (a' := ?_) #[true, true, true, true, false, false, false, false, false, false, false] rfl rfl (by as_aux_lemma => kernel_rfl) (fun _ _ _ h => h) (Or.inl ⟨by rfl, ?_⟩) ?_ ?_
        rotate_left
        · intro w'
          go_simp
          with_reducible rfl
        rotate_left
        · simp only [Act.put, List.setIfInBounds_toArray, List.set_cons_zero, List.set_cons_succ, i64_w, i32_w]
          rfl
        refine pure_ (i := 4) (N := some 103) (v := ?_) (a' := ?_) #[true, true, true, true, true, false, false, false, false, false, false] rfl rfl (by as_aux_lemma => kernel_rfl) (fun _ _ _ h => h) (Or.inl ⟨by rfl, ?_⟩) ?_ ?_
        rotate_left
        · intro w'
          go_simp
          with_reducible rfl
        rotate_left
        · simp only [Act.put, List.setIfInBounds_toArray, List.set_cons_zero, List.set_cons_succ, i64_w, i32_w]
          rfl
        refine pure_ (i := 5) (N := some 104) (v := ?_) (a' := ?_) #[true, true, true, true, true, true, false, false, false, false, false] rfl rfl (by as_aux_lemma => kernel_rfl) (fun _ _ _ h => h) (Or.inl ⟨by rfl, ?_⟩) ?_ ?_
        rotate_left
        · intro w'
          go_simp
          with_reducible rfl
        rotate_left
        · simp only [Act.put, List.setIfInBounds_toArray, List.set_cons_zero, List.set_cons_succ, i64_w, i32_w]
          rfl
        refine take_ (i := 6) (N := some 105) (v := ?_) (a' := ?_) #[true, true, true, true, true, true, true, false, false, false, false] rfl rfl (by as_aux_lemma => kernel_rfl) (fun _ _ _ h => h) (Or.inl ⟨by rfl, ?_⟩) hHeld ?_ ?_
        rotate_left
        · rintro w' ⟨s0, s1⟩
          go_simp
          with_reducible rfl
        rotate_left
        · simp only [Act.put, List.setIfInBounds_toArray, List.set_cons_zero, List.set_cons_succ, i64_w, i32_w]
          rfl
        refine pure_ (i := 7) (N := some 106) (v := ?_) (a' := ?_) #[true, true, true, true, true, true, true, true, false, false, false] rfl rfl (by as_aux_lemma => kernel_rfl) (fun _ _ _ h => h) (Or.inl ⟨by rfl, ?_⟩) ?_ ?_
        rotate_left
        · intro w'
          go_simp
          with_reducible rfl
        rotate_left
        · simp only [Act.put, List.setIfInBounds_toArray, List.set_cons_zero, List.set_cons_succ, i64_w, i32_w]
          rfl
        refine pure_ (i := 8) (N := some 107) (v := ?_) (a' := ?_) #[true, true, true, true, true, true, true, true, true, false, false] rfl rfl (by as_aux_lemma => kernel_rfl) (fun _ _ _ h => h) (Or.inl ⟨by rfl, ?_⟩) ?_ ?_
        rotate_left
        · intro w'
          go_simp
          with_reducible rfl
        rotate_left
        · simp only [Act.put, List.setIfInBounds_toArray, List.set_cons_zero, List.set_cons_succ, i64_w, i32_w]
          rfl
        refine pure_ (i := 9) (N := some 108) (v := ?_) (a' := ?_) #[true, true, true, true, true, true, true, true, true, true, false] rfl rfl (by as_aux_lemma => kernel_rfl) (fun _ _ _ h => h) (Or.inl ⟨by rfl, ?_⟩) ?_ ?_
        rotate_left
        · intro w'
          go_simp
          with_reducible rfl
        rotate_left
        · simp only [Act.put, List.setIfInBounds_toArray, List.set_cons_zero, List.set_cons_succ, i64_w, i32_w]
          rfl
        refine last_ (i := 10) (N := none) #[true, true, true, true, true, true, true, true, true, true, true] rfl rfl (by as_aux_lemma => kernel_rfl) (by decide) (fun K hK => ?_)
        rw [if_pos (by rfl)]
        go_simp
        refine hK.out _ _ ?_
        clear hK K
        refine done_ (by as_aux_lemma => kernel_rfl) ?_
        clear yz
        have HB7 := Aside0.mk (below_drew1 (HB6.out.setCell (p := ⟨g, 7, none⟩) HGE.out (.string y7)))
        have HW7 := Aside0.mk (below_drew1 (HW6.out.setCell (p := ⟨g, 7, none⟩) (Nat.le_refl g) (.string y7)))
        have HX7 := Aside0.mk (blk_drew (blk_put HX6.out 7 (.string y7) (cs' := #[.string y0, .string y1, .int .u8 y2, .int .i64 y3, .int .i64 y4, .int .i64 y5, .int .i64 y6, .string y7]) rfl))
        obtain ⟨W7, hW_⟩ : ∃ W', (W6.setCell ⟨g, 7, none⟩ (.string y7)).drew = W' := ⟨_, rfl⟩
        rw [hW_] at HB7 HW7 HX7 ⊢
        clear hW_ HB6 HW6 HX6 x0 x1 x2 x3 x4 x5 x6 x7 l0 l1 l2 l3 l4 l5 l6 l7
        obtain ⟨x0, x1, x2, x3, x4, x5, x6, x7⟩ := cells8 HX7.out
        obtain ⟨l0, l1, l2, l3, l4, l5, l6, l7⟩ := HLF.out _ HW7.out
        go_upto_region 17 with (fail)
        refine start_ (n := 6) (S := fun w' => w'.cell? ⟨g, 0, none⟩ = some (.string y0) ∧ w'.cell? ⟨g, 1, none⟩ = some (.string y1) ∧ w'.cell? ⟨g, 2, none⟩ = some (.int .u8 y2) ∧ w'.cell? ⟨g, 3, none⟩ = some (.int .i64 y3) ∧ w'.cell? ⟨g, 4, none⟩ = some (.int .i64 y4) ∧ w'.cell? ⟨g, 5, none⟩ = some (.int .i64 y5) ∧ w'.cell? ⟨g, 6, none⟩ = some (.int .i64 y6) ∧ w'.cell? ⟨g, 7, none⟩ = some (.string y7) ∧ w'.cell? (ad.add (i * 8)) = some (.string y0) ∧ w'.cell? ⟨(ad.add (i * 8)).block, (ad.add (i * 8)).off + 1, none⟩ = some (.string y1) ∧ w'.cell? ⟨(ad.add (i * 8)).block, (ad.add (i * 8)).off + 2, none⟩ = some (.int .u8 y2) ∧ w'.cell? ⟨(ad.add (i * 8)).block, (ad.add (i * 8)).off + 3, none⟩ = some (.int .i64 y3) ∧ w'.cell? ⟨(ad.add (i * 8)).block, (ad.add (i * 8)).off + 4, none⟩ = some (.int .i64 y4) ∧ w'.cell? ⟨(ad.add (i * 8)).block, (ad.add (i * 8)).off + 5, none⟩ = some (.int .i64 y5) ∧ w'.cell? ⟨(ad.add (i * 8)).block, (ad.add (i * 8)).off + 6, none⟩ = some (.int .i64 y6) ∧ w'.cell? ⟨(ad.add (i * 8)).block, (ad.add (i * 8)).off + 7, none⟩ = some (.string y7)) (ds := []) #[false, false, false, false, false, false] (by as_aux_lemma => kernel_rfl) rfl rfl ⟨x0, x1, x2, x3, x4, x5, x6, x7, l0, l1, l2, l3, l4, l5, l6, l7⟩ (fun hHeld => ?_)
        refine take_ (i := 0) (N := some 109) (v := ?_) (a' := ?_) #[true, false, false, false, false, false] rfl rfl (by as_aux_lemma => kernel_rfl) (fun _ _ _ h => h) (Or.inl ⟨by rfl, ?_⟩) hHeld ?_ ?_
        rotate_left
        · rintro w' ⟨s0, s1, s2, s3, s4, s5, s6, s7, s8, s9, s10, s11, s12, s13, s14, s15⟩
          go_simp
          with_reducible rfl
        rotate_left
        · simp only [Act.put, List.setIfInBounds_toArray, List.set_cons_zero, List.set_cons_succ, i64_w, i32_w]
          rfl
        refine pure_ (i := 1) (N := some 110) (v := ?_) (a' := ?_) #[true, true, false, false, false, false] rfl rfl (by as_aux_lemma => kernel_rfl) (fun _ _ _ h => h) (Or.inl ⟨by rfl, ?_⟩) ?_ ?_
        rotate_left
        · intro w'
          go_simp
          with_reducible rfl
        rotate_left
        · simp only [Act.put, List.setIfInBounds_toArray, List.set_cons_zero, List.set_cons_succ, i64_w, i32_w]
          rfl
        refine pure_ (i := 2) (N := some 111) (v := ?_) (a' := ?_) #[true, true, true, false, false, false] rfl rfl (by as_aux_lemma => kernel_rfl) (fun _ _ _ h => h) (Or.inl ⟨by rfl, ?_⟩) ?_ ?_
        rotate_left
        · intro w'
          go_simp
          with_reducible rfl
        rotate_left
        · simp only [Act.put, List.setIfInBounds_toArray, List.set_cons_zero, List.set_cons_succ, i64_w, i32_w]
          rfl
        refine pure_ (i := 3) (N := some 112) (v := ?_) (a' := ?_) #[true, true, true, true, false, false] rfl rfl (by as_aux_lemma => kernel_rfl) (fun _ _ _ h => h) (Or.inl ⟨by rfl, ?_⟩) ?_ ?_
        rotate_left
        · intro w'
          go_simp
          with_reducible rfl
        rotate_left
        · simp only [Act.put, List.setIfInBounds_toArray, List.set_cons_zero, List.set_cons_succ, i64_w, i32_w]
          rfl
        refine take_ (i := 4) (N := some 113) (v := ?_) (a' := ?_) #[true, true, true, true, true, false] rfl rfl (by as_aux_lemma => kernel_rfl) (fun _ _ _ h => h) (Or.inl ⟨by rfl, ?_⟩) hHeld ?_ ?_
        rotate_left
        · rintro w' ⟨s0, s1, s2, s3, s4, s5, s6, s7, s8, s9, s10, s11, s12, s13, s14, s15⟩
          go_simp
          with_reducible rfl
        rotate_left
        · simp only [Act.put, List.setIfInBounds_toArray, List.set_cons_zero, List.set_cons_succ, i64_w, i32_w]
          rfl
        refine pure_ (i := 5) (N := some 114) (v := ?_) (a' := ?_) #[true, true, true, true, true, true] rfl rfl (by as_aux_lemma => kernel_rfl) (fun _ _ _ h => h) (Or.inl ⟨by rfl, ?_⟩) ?_ ?_
        rotate_left
        · intro w'
          go_simp
          with_reducible rfl
        rotate_left
        · simp only [Act.put, List.setIfInBounds_toArray, List.set_cons_zero, List.set_cons_succ, i64_w, i32_w]
          rfl
        refine done_ (by as_aux_lemma => kernel_rfl) ?_
        have HB8 := Aside0.mk (below_drew1 HB7.out)
        have HW8 := Aside0.mk (below_drew1 HW7.out)
        have HX8 := Aside0.mk (blk_drew HX7.out)
        obtain ⟨W8, hW_⟩ : ∃ W', W7.drew = W' := ⟨_, rfl⟩
        rw [hW_] at HB8 HW8 HX8 ⊢
        clear hW_ HB7 HW7 HX7 x0 x1 x2 x3 x4 x5 x6 x7 l0 l1 l2 l3 l4 l5 l6 l7
        have HT8 := Aside0.mk (Kd.C_below HTr.out (by rw [HGW.out]; exact HW8.out))
        have HU8 := Aside0.mk (Kd.C_below HUr.out (by rw [HGW.out]; exact HW8.out))
        go_wp2_with (fail)
        go_roundw
        case rel => exact ⟨i + 1, by go_num, by omega, HB8, HT8, HU8⟩
        case measure => simp [intOf]; omega
      · obtain ⟨x0, x1, x2, x3, x4, x5, x6, x7⟩ := cells8 HX5.out
        have p1 : decide ((i : Int) < (p : Int)) = false := decide_eq_false (by omega)
        have p2 : decide (i < p) = false := decide_eq_false hip
        clear hDd
        refine start_ (n := 25) (S := fun w' => w'.cell? ⟨g, 0, none⟩ = some (.string y0) ∧ w'.cell? ⟨g, 1, none⟩ = some (.string y1) ∧ w'.cell? ⟨g, 2, none⟩ = some (.int .u8 y2) ∧ w'.cell? ⟨g, 3, none⟩ = some (.int .i64 y3) ∧ w'.cell? ⟨g, 4, none⟩ = some (.int .i64 y4) ∧ w'.cell? ⟨g, 5, none⟩ = some (.int .i64 y5) ∧ w'.cell? ⟨g, 6, none⟩ = some (.int .i64 y6) ∧ w'.cell? ⟨g, 7, none⟩ = some (.string D) ∧ w'.cell? (ad.add (i * 8)) = some (.string y0) ∧ w'.cell? ⟨(ad.add (i * 8)).block, (ad.add (i * 8)).off + 1, none⟩ = some (.string y1) ∧ w'.cell? ⟨(ad.add (i * 8)).block, (ad.add (i * 8)).off + 2, none⟩ = some (.int .u8 y2) ∧ w'.cell? ⟨(ad.add (i * 8)).block, (ad.add (i * 8)).off + 3, none⟩ = some (.int .i64 y3) ∧ w'.cell? ⟨(ad.add (i * 8)).block, (ad.add (i * 8)).off + 4, none⟩ = some (.int .i64 y4) ∧ w'.cell? ⟨(ad.add (i * 8)).block, (ad.add (i * 8)).off + 5, none⟩ = some (.int .i64 y5) ∧ w'.cell? ⟨(ad.add (i * 8)).block, (ad.add (i * 8)).off + 6, none⟩ = some (.int .i64 y6) ∧ w'.cell? ⟨(ad.add (i * 8)).block, (ad.add (i * 8)).off + 7, none⟩ = some (.string y7)) (ds := []) #[false, false, false, false, false, false, false, false, false, false, false, false, false, false, false, false, false, false, false, false, false, false, false, false, false] (by as_aux_lemma => kernel_rfl) rfl rfl ⟨x0, x1, x2, x3, x4, x5, x6, x7, l0, l1, l2, l3, l4, l5, l6, l7⟩ (fun hHeld => ?_)
        refine pure_ (i := 0) (N := some 74) (v := ?_) (a' := ?_) #[true, false, false, false, false, false, false, false, false, false, false, false, false, false, false, false, false, false, false, false, false, false, false, false, false] rfl rfl (by as_aux_lemma => kernel_rfl) (fun _ _ _ h => h) (Or.inl ⟨by rfl, ?_⟩) ?_ ?_
        rotate_left
        · intro w'
          go_simp
          with_reducible rfl
        rotate_left
        · simp only [Act.put, List.setIfInBounds_toArray, List.set_cons_zero, List.set_cons_succ, i64_w, i32_w]
          rfl
        refine take_ (i := 1) (N := some 75) (v := ?_) (a' := ?_) #[true, true, false, false, false, false, false, false, false, false, false, false, false, false, false, false, false, false, false, false, false, false, false, false, false] rfl rfl (by as_aux_lemma => kernel_rfl) (fun _ _ _ h => h) (Or.inl ⟨by rfl, ?_⟩) hHeld ?_ ?_
        rotate_left
        · rintro w' ⟨s0, s1, s2, s3, s4, s5, s6, s7, s8, s9, s10, s11, s12, s13, s14, s15⟩
          go_simp
          with_reducible rfl
        rotate_left
        · simp only [Act.put, List.setIfInBounds_toArray, List.set_cons_zero, List.set_cons_succ, i64_w, i32_w]
          rfl
        refine pure_ (i := 2) (N := some 76) (v := ?_) (a' := ?_) #[true, true, true, false, false, false, false, false, false, false, false, false, false, false, false, false, false, false, false, false, false, false, false, false, false] rfl rfl (by as_aux_lemma => kernel_rfl) (fun _ _ _ h => h) (Or.inl ⟨by rfl, ?_⟩) ?_ ?_
        rotate_left
        · intro w'
          go_simp
          with_reducible rfl
        rotate_left
        · simp only [Act.put, List.setIfInBounds_toArray, List.set_cons_zero, List.set_cons_succ, i64_w, i32_w]
          rfl
        refine pure_ (i := 3) (N := some 77) (v := ?_) (a' := ?_) #[true, true, true, true, false, false, false, false, false, false, false, false, false, false, false, false, false, false, false, false, false, false, false, false, false] rfl rfl (by as_aux_lemma => kernel_rfl) (fun _ _ _ h => h) (Or.inl ⟨by rfl, ?_⟩) ?_ ?_
        rotate_left
        · intro w'
          go_simp
          with_reducible rfl
        rotate_left
        · simp only [Act.put, List.setIfInBounds_toArray, List.set_cons_zero, List.set_cons_succ, i64_w, i32_w]
          rfl
        refine pure_ (i := 4) (N := some 78) (v := ?_) (a' := ?_) #[true, true, true, true, true, false, false, false, false, false, false, false, false, false, false, false, false, false, false, false, false, false, false, false, false] rfl rfl (by as_aux_lemma => kernel_rfl) (fun _ _ _ h => h) (Or.inl ⟨by rfl, ?_⟩) ?_ ?_
        rotate_left
        · intro w'
          go_simp
          with_reducible rfl
        rotate_left
        · simp only [Act.put, List.setIfInBounds_toArray, List.set_cons_zero, List.set_cons_succ, i64_w, i32_w]
          rfl
        refine pure_ (i := 5) (N := some 79) (v := ?_) (a' := ?_) #[true, true, true, true, true, true, false, false, false, false, false, false, false, false, false, false, false, false, false, false, false, false, false, false, false] rfl rfl (by as_aux_lemma => kernel_rfl) (fun _ _ _ h => h) (Or.inl ⟨by rfl, ?_⟩) ?_ ?_
        rotate_left
        · intro w'
          go_simp
          with_reducible rfl
        rotate_left
        · simp only [Act.put, List.setIfInBounds_toArray, List.set_cons_zero, List.set_cons_succ, i64_w, i32_w]
          rfl
        refine pure_ (i := 6) (N := some 80) (v := ?_) (a' := ?_) #[true, true, true, true, true, true, true, false, false, false, false, false, false, false, false, false, false, false, false, false, false, false, false, false, false] rfl rfl (by as_aux_lemma => kernel_rfl) (fun _ _ _ h => h) (Or.inl ⟨by rfl, ?_⟩) ?_ ?_
        rotate_left
        · intro w'
          go_simp
          with_reducible rfl
        rotate_left
        · simp only [Act.put, List.setIfInBounds_toArray, List.set_cons_zero, List.set_cons_succ, i64_w, i32_w]
          rfl
        refine take_ (i := 7) (N := some 81) (v := ?_) (a' := ?_) #[true, true, true, true, true, true, true, true, false, false, false, false, false, false, false, false, false, false, false, false, false, false, false, false, false] rfl rfl (by as_aux_lemma => kernel_rfl) (fun _ _ _ h => h) (Or.inl ⟨by rfl, ?_⟩) hHeld ?_ ?_
        rotate_left
        · rintro w' ⟨s0, s1, s2, s3, s4, s5, s6, s7, s8, s9, s10, s11, s12, s13, s14, s15⟩
          go_simp
          with_reducible rfl
        rotate_left
        · simp only [Act.put, List.setIfInBounds_toArray, List.set_cons_zero, List.set_cons_succ, i64_w, i32_w]
          rfl
        refine pure_ (i := 8) (N := some 82) (v := ?_) (a' := ?_) #[true, true, true, true, true, true, true, true, true, false, false, false, false, false, false, false, false, false, false, false, false, false, false, false, false] rfl rfl (by as_aux_lemma => kernel_rfl) (fun _ _ _ h => h) (Or.inl ⟨by rfl, ?_⟩) ?_ ?_
        rotate_left
        · intro w'
          go_simp
          with_reducible rfl
        rotate_left
        · simp only [Act.put, List.setIfInBounds_toArray, List.set_cons_zero, List.set_cons_succ, i64_w, i32_w]
          rfl
        refine pure_ (i := 9) (N := some 83) (v := ?_) (a' := ?_) #[true, true, true, true, true, true, true, true, true, true, false, false, false, false, false, false, false, false, false, false, false, false, false, false, false] rfl rfl (by as_aux_lemma => kernel_rfl) (fun _ _ _ h => h) (Or.inl ⟨by rfl, ?_⟩) ?_ ?_
        rotate_left
        · intro w'
          go_simp
          with_reducible rfl
        rotate_left
        · simp only [Act.put, List.setIfInBounds_toArray, List.set_cons_zero, List.set_cons_succ, i64_w, i32_w]
          rfl
        refine pure_ (i := 10) (N := some 84) (v := ?_) (a' := ?_) #[true, true, true, true, true, true, true, true, true, true, true, false, false, false, false, false, false, false, false, false, false, false, false, false, false] rfl rfl (by as_aux_lemma => kernel_rfl) (fun _ _ _ h => h) (Or.inl ⟨by rfl, ?_⟩) ?_ ?_
        rotate_left
        · intro w'
          go_simp
          with_reducible rfl
        rotate_left
        · simp only [Act.put, List.setIfInBounds_toArray, List.set_cons_zero, List.set_cons_succ, i64_w, i32_w]
          rfl
        refine pure_ (i := 11) (N := some 85) (v := ?_) (a' := ?_) #[true, true, true, true, true, true, true, true, true, true, true, true, false, false, false, false, false, false, false, false, false, false, false, false, false] rfl rfl (by as_aux_lemma => kernel_rfl) (fun _ _ _ h => h) (Or.inl ⟨by rfl, ?_⟩) ?_ ?_
        rotate_left
        · intro w'
          go_simp
          with_reducible rfl
        rotate_left
        · simp only [Act.put, List.setIfInBounds_toArray, List.set_cons_zero, List.set_cons_succ, i64_w, i32_w]
          rfl
        refine pure_ (i := 12) (N := some 86) (v := ?_) (a' := ?_) #[true, true, true, true, true, true, true, true, true, true, true, true, true, false, false, false, false, false, false, false, false, false, false, false, false] rfl rfl (by as_aux_lemma => kernel_rfl) (fun _ _ _ h => h) (Or.inl ⟨by rfl, ?_⟩) ?_ ?_
        rotate_left
        · intro w'
          go_simp
          with_reducible rfl
        rotate_left
        · simp only [Act.put, List.setIfInBounds_toArray, List.set_cons_zero, List.set_cons_succ, i64_w, i32_w]
          rfl
        refine pure_ (i := 13) (N := some 87) (v := ?_) (a' := ?_) #[true, true, true, true, true, true, true, true, true, true, true, true, true, true, false, false, false, false, false, false, false, false, false, false, false] rfl rfl (by as_aux_lemma => kernel_rfl) (fun _ _ _ h => h) (Or.inl ⟨by rfl, ?_⟩) ?_ ?_
        rotate_left
        · intro w'
          go_simp
          with_reducible rfl
        rotate_left
        · simp only [Act.put, List.setIfInBounds_toArray, List.set_cons_zero, List.set_cons_succ, i64_w, i32_w]
          rfl
        refine pure_ (i := 14) (N := some 88) (v := ?_) (a' := ?_) #[true, true, true, true, true, true, true, true, true, true, true, true, true, true, true, false, false, false, false, false, false, false, false, false, false] rfl rfl (by as_aux_lemma => kernel_rfl) (fun _ _ _ h => h) (Or.inl ⟨by rfl, ?_⟩) ?_ ?_
        rotate_left
        · intro w'
          go_simp
          with_reducible rfl
        rotate_left
        · simp only [Act.put, List.setIfInBounds_toArray, List.set_cons_zero, List.set_cons_succ, i64_w, i32_w]
          rfl
        refine pure_ (i := 15) (N := some 89) (v := ?_) (a' := ?_) #[true, true, true, true, true, true, true, true, true, true, true, true, true, true, true, true, false, false, false, false, false, false, false, false, false] rfl rfl (by as_aux_lemma => kernel_rfl) (fun _ _ _ h => h) (Or.inl ⟨by rfl, ?_⟩) ?_ ?_
        rotate_left
        · intro w'
          go_simp
          with_reducible rfl
        rotate_left
        · simp only [Act.put, List.setIfInBounds_toArray, List.set_cons_zero, List.set_cons_succ, i64_w, i32_w]
          rfl
        refine pure_ (i := 16) (N := some 90) (v := ?_) (a' := ?_) #[true, true, true, true, true, true, true, true, true, true, true, true, true, true, true, true, true, false, false, false, false, false, false, false, false] rfl rfl (by as_aux_lemma => kernel_rfl) (fun _ _ _ h => h) (Or.inl ⟨by rfl, ?_⟩) ?_ ?_
        rotate_left
        · intro w'
          go_simp
          with_reducible rfl
        rotate_left
        · simp only [Act.put, List.setIfInBounds_toArray, List.set_cons_zero, List.set_cons_succ, i64_w, i32_w]
          rfl
        refine pure_ (i := 17) (N := some 91) (v := undef) (a' := ?_) #[true, true, true, true, true, true, true, true, true, true, true, true, true, true, true, true, true, true, false, false, false, false, false, false, false] rfl rfl (by as_aux_lemma => kernel_rfl) (fun _ _ _ h => h) (Or.inr ⟨by rfl, rfl⟩) ?_ ?_
        rotate_left
        · simp only [Act.put, List.setIfInBounds_toArray, List.set_cons_zero, List.set_cons_succ, i64_w, i32_w]
          rfl
        refine pure_ (i := 18) (N := some 92) (v := undef) (a' := ?_) #[true, true, true, true, true, true, true, true, true, true, true, true, true, true, true, true, true, true, true, false, false, false, false, false, false] rfl rfl (by as_aux_lemma => kernel_rfl) (fun _ _ _ h => h) (Or.inr ⟨by rfl, rfl⟩) ?_ ?_
        rotate_left
        · simp only [Act.put, List.setIfInBounds_toArray, List.set_cons_zero, List.set_cons_succ, i64_w, i32_w]
          rfl
        refine pure_ (i := 19) (N := some 93) (v := undef) (a' := ?_) #[true, true, true, true, true, true, true, true, true, true, true, true, true, true, true, true, true, true, true, true, false, false, false, false, false] rfl rfl (by as_aux_lemma => kernel_rfl) (fun _ _ _ h => h) (Or.inr ⟨by rfl, rfl⟩) ?_ ?_
        rotate_left
        · simp only [Act.put, List.setIfInBounds_toArray, List.set_cons_zero, List.set_cons_succ, i64_w, i32_w]
          rfl
        refine pure_ (i := 20) (N := some 94) (v := undef) (a' := ?_) #[true, true, true, true, true, true, true, true, true, true, true, true, true, true, true, true, true, true, true, true, true, false, false, false, false] rfl rfl (by as_aux_lemma => kernel_rfl) (fun _ _ _ h => h) (Or.inr ⟨by rfl, rfl⟩) ?_ ?_
        rotate_left
        · simp only [Act.put, List.setIfInBounds_toArray, List.set_cons_zero, List.set_cons_succ, i64_w, i32_w]
          rfl
        refine pure_ (i := 21) (N := some 95) (v := undef) (a' := ?_) #[true, true, true, true, true, true, true, true, true, true, true, true, true, true, true, true, true, true, true, true, true, true, false, false, false] rfl rfl (by as_aux_lemma => kernel_rfl) (fun _ _ _ h => h) (Or.inr ⟨by rfl, rfl⟩) ?_ ?_
        rotate_left
        · simp only [Act.put, List.setIfInBounds_toArray, List.set_cons_zero, List.set_cons_succ, i64_w, i32_w]
          rfl
        refine pure_ (i := 22) (N := some 96) (v := undef) (a' := ?_) #[true, true, true, true, true, true, true, true, true, true, true, true, true, true, true, true, true, true, true, true, true, true, true, false, false] rfl rfl (by as_aux_lemma => kernel_rfl) (fun _ _ _ h => h) (Or.inr ⟨by rfl, rfl⟩) ?_ ?_
        rotate_left
        · simp only [Act.put, List.setIfInBounds_toArray, List.set_cons_zero, List.set_cons_succ, i64_w, i32_w]
          rfl
        refine pure_ (i := 23) (N := some 97) (v := ?_) (a' := ?_) #[true, true, true, true, true, true, true, true, true, true, true, true, true, true, true, true, true, true, true, true, true, true, true, true, false] rfl rfl (by as_aux_lemma => kernel_rfl) (fun _ _ _ h => h) (Or.inl ⟨by rfl, ?_⟩) ?_ ?_
        rotate_left
        · intro w'
          go_simp
          with_reducible rfl
        rotate_left
        · simp only [Act.put, List.setIfInBounds_toArray, List.set_cons_zero, List.set_cons_succ, i64_w, i32_w]
          rfl
        refine pure_ (i := 24) (N := some 98) (v := ?_) (a' := ?_) #[true, true, true, true, true, true, true, true, true, true, true, true, true, true, true, true, true, true, true, true, true, true, true, true, true] rfl rfl (by as_aux_lemma => kernel_rfl) (fun _ _ _ h => h) (Or.inl ⟨by rfl, ?_⟩) ?_ ?_
        rotate_left
        · intro w'
          go_simp
          with_reducible rfl
        rotate_left
        · simp only [Act.put, List.setIfInBounds_toArray, List.set_cons_zero, List.set_cons_succ, i64_w, i32_w]
          rfl
        refine done_ (by as_aux_lemma => kernel_rfl) ?_
        have HB6 := Aside0.mk (below_drew1 HB5.out)
        have HW6 := Aside0.mk (below_drew1 HW5.out)
        have HX6 := Aside0.mk (blk_drew HX5.out)
        obtain ⟨W6, hW_⟩ : ∃ W', W5.drew = W' := ⟨_, rfl⟩
        rw [hW_] at HB6 HW6 HX6 ⊢
        clear hW_ HB5 HW5 HX5 x0 x1 x2 x3 x4 x5 x6 x7 l0 l1 l2 l3 l4 l5 l6 l7
        obtain ⟨x0, x1, x2, x3, x4, x5, x6, x7⟩ := cells8 HX6.out
        obtain ⟨l0, l1, l2, l3, l4, l5, l6, l7⟩ := HLF.out _ HW6.out
        have yz := blk_frozen HX6.out 7
        go_upto_region 16 with (fail)
        refine start_ (n := 11) (S := fun w' => w'.cell? ⟨g, 7, none⟩ = some (.string D) ∧ w'.cell? ⟨(ad.add (i * 8)).block, (ad.add (i * 8)).off + 7, none⟩ = some (.string y7)) (ds := [10]) #[false, false, false, false, false, false, false, false, false, false, false] (by as_aux_lemma => kernel_rfl) rfl rfl ⟨x7, l7⟩ (fun hHeld => ?_)
        refine pure_ (i := 0) (N := some 99) (v := ?_) (a' := ?_) #[true, false, false, false, false, false, false, false, false, false, false] rfl rfl (by as_aux_lemma => kernel_rfl) (fun _ _ _ h => h) (Or.inl ⟨by rfl, ?_⟩) ?_ ?_
        rotate_left
        · intro w'
          go_simp
          with_reducible rfl
        rotate_left
        · simp only [Act.put, List.setIfInBounds_toArray, List.set_cons_zero, List.set_cons_succ, i64_w, i32_w]
          rfl
        refine take_ (i := 1) (N := some 100) (v := ?_) (a' := ?_) #[true, true, false, false, false, false, false, false, false, false, false] rfl rfl (by as_aux_lemma => kernel_rfl) (fun _ _ _ h => h) (Or.inl ⟨by rfl, ?_⟩) hHeld ?_ ?_
        rotate_left
        · rintro w' ⟨s0, s1⟩
          go_simp
          with_reducible rfl
        rotate_left
        · simp only [Act.put, List.setIfInBounds_toArray, List.set_cons_zero, List.set_cons_succ, i64_w, i32_w]
          rfl
        refine pure_ (i := 2) (N := some 101) (v := ?_) (a' := ?_) #[true, true, true, false, false, false, false, false, false, false, false] rfl rfl (by as_aux_lemma => kernel_rfl) (fun _ _ _ h => h) (Or.inl ⟨by rfl, ?_⟩) ?_ ?_
        rotate_left
        · intro w'
          go_simp
          with_reducible rfl
        rotate_left
        · simp only [Act.put, List.setIfInBounds_toArray, List.set_cons_zero, List.set_cons_succ, i64_w, i32_w]
          rfl
        refine pure_ (i := 3) (N := some 102) (v := ?_) (a' := ?_) #[true, true, true, true, false, false, false, false, false, false, false] rfl rfl (by as_aux_lemma => kernel_rfl) (fun _ _ _ h => h) (Or.inl ⟨by rfl, ?_⟩) ?_ ?_
        rotate_left
        · intro w'
          go_simp
          with_reducible rfl
        rotate_left
        · simp only [Act.put, List.setIfInBounds_toArray, List.set_cons_zero, List.set_cons_succ, i64_w, i32_w]
          rfl
        refine pure_ (i := 4) (N := some 103) (v := ?_) (a' := ?_) #[true, true, true, true, true, false, false, false, false, false, false] rfl rfl (by as_aux_lemma => kernel_rfl) (fun _ _ _ h => h) (Or.inl ⟨by rfl, ?_⟩) ?_ ?_
        rotate_left
        · intro w'
          go_simp
          with_reducible rfl
        rotate_left
        · simp only [Act.put, List.setIfInBounds_toArray, List.set_cons_zero, List.set_cons_succ, i64_w, i32_w]
          rfl
        refine pure_ (i := 5) (N := some 104) (v := ?_) (a' := ?_) #[true, true, true, true, true, true, false, false, false, false, false] rfl rfl (by as_aux_lemma => kernel_rfl) (fun _ _ _ h => h) (Or.inl ⟨by rfl, ?_⟩) ?_ ?_
        rotate_left
        · intro w'
          go_simp
          with_reducible rfl
        rotate_left
        · simp only [Act.put, List.setIfInBounds_toArray, List.set_cons_zero, List.set_cons_succ, i64_w, i32_w]
          rfl
        refine take_ (i := 6) (N := some 105) (v := ?_) (a' := ?_) #[true, true, true, true, true, true, true, false, false, false, false] rfl rfl (by as_aux_lemma => kernel_rfl) (fun _ _ _ h => h) (Or.inl ⟨by rfl, ?_⟩) hHeld ?_ ?_
        rotate_left
        · rintro w' ⟨s0, s1⟩
          go_simp
          with_reducible rfl
        rotate_left
        · simp only [Act.put, List.setIfInBounds_toArray, List.set_cons_zero, List.set_cons_succ, i64_w, i32_w]
          rfl
        refine pure_ (i := 7) (N := some 106) (v := ?_) (a' := ?_) #[true, true, true, true, true, true, true, true, false, false, false] rfl rfl (by as_aux_lemma => kernel_rfl) (fun _ _ _ h => h) (Or.inl ⟨by rfl, ?_⟩) ?_ ?_
        rotate_left
        · intro w'
          go_simp
          with_reducible rfl
        rotate_left
        · simp only [Act.put, List.setIfInBounds_toArray, List.set_cons_zero, List.set_cons_succ, i64_w, i32_w]
          rfl
        refine pure_ (i := 8) (N := some 107) (v := ?_) (a' := ?_) #[true, true, true, true, true, true, true, true, true, false, false] rfl rfl (by as_aux_lemma => kernel_rfl) (fun _ _ _ h => h) (Or.inl ⟨by rfl, ?_⟩) ?_ ?_
        rotate_left
        · intro w'
          go_simp
          with_reducible rfl
        rotate_left
        · simp only [Act.put, List.setIfInBounds_toArray, List.set_cons_zero, List.set_cons_succ, i64_w, i32_w]
          rfl
        refine pure_ (i := 9) (N := some 108) (v := ?_) (a' := ?_) #[true, true, true, true, true, true, true, true, true, true, false] rfl rfl (by as_aux_lemma => kernel_rfl) (fun _ _ _ h => h) (Or.inl ⟨by rfl, ?_⟩) ?_ ?_
        rotate_left
        · intro w'
          go_simp
          with_reducible rfl
        rotate_left
        · simp only [Act.put, List.setIfInBounds_toArray, List.set_cons_zero, List.set_cons_succ, i64_w, i32_w]
          rfl
        refine last_ (i := 10) (N := none) #[true, true, true, true, true, true, true, true, true, true, true] rfl rfl (by as_aux_lemma => kernel_rfl) (by decide) (fun K hK => ?_)
        rw [if_pos (by rfl)]
        go_simp
        refine hK.out _ _ ?_
        clear hK K
        refine done_ (by as_aux_lemma => kernel_rfl) ?_
        clear yz
        have HB7 := Aside0.mk (below_drew1 (HB6.out.setCell (p := ⟨g, 7, none⟩) HGE.out (.string y7)))
        have HW7 := Aside0.mk (below_drew1 (HW6.out.setCell (p := ⟨g, 7, none⟩) (Nat.le_refl g) (.string y7)))
        have HX7 := Aside0.mk (blk_drew (blk_put HX6.out 7 (.string y7) (cs' := #[.string y0, .string y1, .int .u8 y2, .int .i64 y3, .int .i64 y4, .int .i64 y5, .int .i64 y6, .string y7]) rfl))
        obtain ⟨W7, hW_⟩ : ∃ W', (W6.setCell ⟨g, 7, none⟩ (.string y7)).drew = W' := ⟨_, rfl⟩
        rw [hW_] at HB7 HW7 HX7 ⊢
        clear hW_ HB6 HW6 HX6 x0 x1 x2 x3 x4 x5 x6 x7 l0 l1 l2 l3 l4 l5 l6 l7
        obtain ⟨x0, x1, x2, x3, x4, x5, x6, x7⟩ := cells8 HX7.out
        obtain ⟨l0, l1, l2, l3, l4, l5, l6, l7⟩ := HLF.out _ HW7.out
        go_upto_region 17 with (fail)
        refine start_ (n := 6) (S := fun w' => w'.cell? ⟨g, 0, none⟩ = some (.string y0) ∧ w'.cell? ⟨g, 1, none⟩ = some (.string y1) ∧ w'.cell? ⟨g, 2, none⟩ = some (.int .u8 y2) ∧ w'.cell? ⟨g, 3, none⟩ = some (.int .i64 y3) ∧ w'.cell? ⟨g, 4, none⟩ = some (.int .i64 y4) ∧ w'.cell? ⟨g, 5, none⟩ = some (.int .i64 y5) ∧ w'.cell? ⟨g, 6, none⟩ = some (.int .i64 y6) ∧ w'.cell? ⟨g, 7, none⟩ = some (.string y7) ∧ w'.cell? (ad.add (i * 8)) = some (.string y0) ∧ w'.cell? ⟨(ad.add (i * 8)).block, (ad.add (i * 8)).off + 1, none⟩ = some (.string y1) ∧ w'.cell? ⟨(ad.add (i * 8)).block, (ad.add (i * 8)).off + 2, none⟩ = some (.int .u8 y2) ∧ w'.cell? ⟨(ad.add (i * 8)).block, (ad.add (i * 8)).off + 3, none⟩ = some (.int .i64 y3) ∧ w'.cell? ⟨(ad.add (i * 8)).block, (ad.add (i * 8)).off + 4, none⟩ = some (.int .i64 y4) ∧ w'.cell? ⟨(ad.add (i * 8)).block, (ad.add (i * 8)).off + 5, none⟩ = some (.int .i64 y5) ∧ w'.cell? ⟨(ad.add (i * 8)).block, (ad.add (i * 8)).off + 6, none⟩ = some (.int .i64 y6) ∧ w'.cell? ⟨(ad.add (i * 8)).block, (ad.add (i * 8)).off + 7, none⟩ = some (.string y7)) (ds := []) #[false, false, false, false, false, false] (by as_aux_lemma => kernel_rfl) rfl rfl ⟨x0, x1, x2, x3, x4, x5, x6, x7, l0, l1, l2, l3, l4, l5, l6, l7⟩ (fun hHeld => ?_)
        refine take_ (i := 0) (N := some 109) (v := ?_) (a' := ?_) #[true, false, false, false, false, false] rfl rfl (by as_aux_lemma => kernel_rfl) (fun _ _ _ h => h) (Or.inl ⟨by rfl, ?_⟩) hHeld ?_ ?_
        rotate_left
        · rintro w' ⟨s0, s1, s2, s3, s4, s5, s6, s7, s8, s9, s10, s11, s12, s13, s14, s15⟩
          go_simp
          with_reducible rfl
        rotate_left
        · simp only [Act.put, List.setIfInBounds_toArray, List.set_cons_zero, List.set_cons_succ, i64_w, i32_w]
          rfl
        refine pure_ (i := 1) (N := some 110) (v := ?_) (a' := ?_) #[true, true, false, false, false, false] rfl rfl (by as_aux_lemma => kernel_rfl) (fun _ _ _ h => h) (Or.inl ⟨by rfl, ?_⟩) ?_ ?_
        rotate_left
        · intro w'
          go_simp
          with_reducible rfl
        rotate_left
        · simp only [Act.put, List.setIfInBounds_toArray, List.set_cons_zero, List.set_cons_succ, i64_w, i32_w]
          rfl
        refine pure_ (i := 2) (N := some 111) (v := ?_) (a' := ?_) #[true, true, true, false, false, false] rfl rfl (by as_aux_lemma => kernel_rfl) (fun _ _ _ h => h) (Or.inl ⟨by rfl, ?_⟩) ?_ ?_
        rotate_left
        · intro w'
          go_simp
          with_reducible rfl
        rotate_left
        · simp only [Act.put, List.setIfInBounds_toArray, List.set_cons_zero, List.set_cons_succ, i64_w, i32_w]
          rfl
        refine pure_ (i := 3) (N := some 112) (v := ?_) (a' := ?_) #[true, true, true, true, false, false] rfl rfl (by as_aux_lemma => kernel_rfl) (fun _ _ _ h => h) (Or.inl ⟨by rfl, ?_⟩) ?_ ?_
        rotate_left
        · intro w'
          go_simp
          with_reducible rfl
        rotate_left
        · simp only [Act.put, List.setIfInBounds_toArray, List.set_cons_zero, List.set_cons_succ, i64_w, i32_w]
          rfl
        refine take_ (i := 4) (N := some 113) (v := ?_) (a' := ?_) #[true, true, true, true, true, false] rfl rfl (by as_aux_lemma => kernel_rfl) (fun _ _ _ h => h) (Or.inl ⟨by rfl, ?_⟩) hHeld ?_ ?_
        rotate_left
        · rintro w' ⟨s0, s1, s2, s3, s4, s5, s6, s7, s8, s9, s10, s11, s12, s13, s14, s15⟩
          go_simp
          with_reducible rfl
        rotate_left
        · simp only [Act.put, List.setIfInBounds_toArray, List.set_cons_zero, List.set_cons_succ, i64_w, i32_w]
          rfl
        refine pure_ (i := 5) (N := some 114) (v := ?_) (a' := ?_) #[true, true, true, true, true, true] rfl rfl (by as_aux_lemma => kernel_rfl) (fun _ _ _ h => h) (Or.inl ⟨by rfl, ?_⟩) ?_ ?_
        rotate_left
        · intro w'
          go_simp
          with_reducible rfl
        rotate_left
        · simp only [Act.put, List.setIfInBounds_toArray, List.set_cons_zero, List.set_cons_succ, i64_w, i32_w]
          rfl
        refine done_ (by as_aux_lemma => kernel_rfl) ?_
        have HB8 := Aside0.mk (below_drew1 HB7.out)
        have HW8 := Aside0.mk (below_drew1 HW7.out)
        have HX8 := Aside0.mk (blk_drew HX7.out)
        obtain ⟨W8, hW_⟩ : ∃ W', W7.drew = W' := ⟨_, rfl⟩
        rw [hW_] at HB8 HW8 HX8 ⊢
        clear hW_ HB7 HW7 HX7 x0 x1 x2 x3 x4 x5 x6 x7 l0 l1 l2 l3 l4 l5 l6 l7
        have HT8 := Aside0.mk (Kd.C_below HTr.out (by rw [HGW.out]; exact HW8.out))
        have HU8 := Aside0.mk (Kd.C_below HUr.out (by rw [HGW.out]; exact HW8.out))
        go_wp2_with (fail)
        go_roundw
        case rel => exact ⟨i + 1, by go_num, by omega, HB8, HT8, HU8⟩
        case measure => simp [intOf]; omega
    · obtain rfl : i = tL := by omega
      have hi1 : decide ((i : Int) < (i : Int)) = false := decide_eq_false (by omega)
      clear hlt
      go_wp2_with (fail)
      go_ret
      exact ⟨rfl, HBr.out⟩

theorem reelkeeperlaw10_ReadGoes.calls (k : Nat) (A0 : Option Addr) (c0 : Nat) (l0 : List (List Int)) (A1 : Option Addr) (c1 : Nat) (l1 : List (List Int)) (r : Bool) (w : World) (hC0 : Kd.C kRw w A0 l0.length l0) (hc0 : l0.length ≤ c0) (hY0 : ∀ r ∈ l0, byteOk r) (hC1 : Kd.C kRw w A1 l1.length l1) (hc1 : l1.length ≤ c1) (hY1 : ∀ r ∈ l1, byteOk r) (h : reelkeeperlaw10_ReadGoes.f k l0 l1 = some r) :
    Calls Try.prog 4 #[.slice A0 l0.length c0, .slice A1 l1.length c1] w fun e w' => e = .returned (.bool r) ∧ Below w.heap.size w w' := by
  obtain rfl : true = r := Option.some.inj h
  exact read_goes.at_ A0 c0 l0 A1 c1 l1 _ _ rfl rfl w hC0 hc0 hC1 hc1 hY0 hY1

end Go.Proofs.Ytpedagpcblnnhaa.X
