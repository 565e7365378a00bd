import Derived.Test.YtpedagpcblnnhaaXK
import Derived.Test.YtpedagpcblnnhaaXE31
import Derived.Test.YtpedagpcblnnhaaXE44
import Derived.Test.YtpedagpcblnnhaaXGpa
import Derived.Test.YtpedagpcblnnhaaXGrb
import Derived.Test.YtpedagpcblnnhaaXGrd
import Derived.Test.YtpedagpcblnnhaaXreelkeeperlaw10FewEvs
import Derived.Test.YtpedagpcblnnhaaYAll
import Derived.Test.YtpedagpcblnnhaaP04g
import Derived.Test.YtpedagpcblnnhaaP09a
import Derived.Test.YtpedagpcblnnhaaP09s
import Derived.Test.YtpedagpcblnnhaaP10a
import Derived.Test.YtpedagpcblnnhaaP10f
import Derived.Test.YtpedagpcblnnhaaP10k
import Derived.Test.YtpedagpcblnnhaaP10o
import Derived.Test.YtpedagpcblnnhaaP10s
import Derived.Test.YtpedagpcblnnhaaPGA
import Derived.Test.YtpedagpcblnnhaaPGE
import Derived.Deep.RegionHeld3
import Derived.Laws.EntriesVeiled
import Derived.WalkSpells
namespace Go.Proofs.Ytpedagpcblnnhaa.X
open Go.RowKit Go.Proofs.YtpedagpcblnnhaaW.PrintWords Go.Proofs.YtpedagpcblnnhaaW.PrintLast Go.Proofs.YtpedagpcblnnhaaW.PrintMore
attribute [local go_sem] max2_int min2_int max_two min_two
set_option linter.unusedVariables false
set_option linter.unusedSimpArgs false

attribute [local go_sem high] eqA31 eqA44
open Go.Proofs.YtpedagpcblnnhaaY
set_option maxRecDepth 100000
theorem ev_cellsH {w : World} {A : Option Addr} {n : Nat} {t : List Evt} (h : Kd.C k38 w A n t) {i : Nat} (hi : i < n) (x : Evt) (hx : t[i]? = some x) : ∃ ad, A = some ad ∧ w.cell? (ad.add (i * 10)) = some (.int .i64 x.f0) ∧ w.cell? ⟨(ad.add (i * 10)).block, (ad.add (i * 10)).off + 1, none⟩ = some (.string x.f1.f0) ∧ w.cell? ⟨(ad.add (i * 10)).block, (ad.add (i * 10)).off + 2, none⟩ = some (.string x.f1.f1) ∧ w.cell? ⟨(ad.add (i * 10)).block, (ad.add (i * 10)).off + 3, none⟩ = some (.int .u8 x.f1.f2) ∧ w.cell? ⟨(ad.add (i * 10)).block, (ad.add (i * 10)).off + 4, none⟩ = some (.int .i64 x.f1.f3) ∧ w.cell? ⟨(ad.add (i * 10)).block, (ad.add (i * 10)).off + 5, none⟩ = some (.int .i64 x.f1.f4) ∧ w.cell? ⟨(ad.add (i * 10)).block, (ad.add (i * 10)).off + 6, none⟩ = some (.int .i64 x.f1.f5) ∧ w.cell? ⟨(ad.add (i * 10)).block, (ad.add (i * 10)).off + 7, none⟩ = some (.int .i64 x.f1.f6) ∧ w.cell? ⟨(ad.add (i * 10)).block, (ad.add (i * 10)).off + 8, none⟩ = some (.string x.f1.f7) ∧ w.cell? ⟨(ad.add (i * 10)).block, (ad.add (i * 10)).off + 9, none⟩ = some (.string x.f2) := by
  have h1 := at_T38 h (i : Int) (by omega) (by omega)
  have e : rd_T38 t (i : Int) = x := by unfold rd_T38; rw [Int.toNat_natCast, List.getD_eq_getElem?_getD, hx]; rfl
  rw [e, Int.toNat_natCast] at h1
  exact h1
theorem gathS_lenH : ∀ (l : List Evt) (q : List Nd) (c : Option Nd), (outOf (gathS l q c).1).length ≤ (outOf (q, c)).length + l.length
  | [], q, c => Nat.le_refl _
  | v :: l, q, c => by
    show (outOf (match takeE q c v with | some r => gathS l r.1 r.2 | none => ((q, c), false)).1).length ≤ (outOf (q, c)).length + (l.length + 1)
    have h := takeO_len (outOf (q, c)) c.isSome v
    rw [takeO_E] at h
    cases hE : takeE q c v with
    | none => show (outOf (q, c)).length ≤ _; omega
    | some r =>
      rw [hE] at h
      have h2 := gathS_lenH l r.1 r.2
      have h3 : (outOf (r.1, r.2)).length ≤ (outOf (q, c)).length + 1 := h
      show (outOf (gathS l r.1 r.2).1).length ≤ _
      omega
theorem gatherF_lenH (l : List Evt) : (gatherF l).1.length ≤ l.length := by
  have h := gathS_lenH l [] none
  have e : (outOf (([], none) : List Nd × Option Nd)).length = 0 := rfl
  rw [e, Nat.zero_add] at h
  exact h
def reelkeeperlaw10_ReadGathers.f (k : Nat) (a b : List Evt) : Option Bool := some true
theorem ReadGathers_told (a b : List Evt) : ∃ k, reelkeeperlaw10_ReadGathers.f k a b = some true := ⟨0, rfl⟩
set_option maxHeartbeats 12800000 in
theorem read_gathers.at_ (A : Option Addr) (cA : Nat) (a : List Evt) (B : Option Addr) (cB : Nat) (b : List Evt) (nA nB : Nat) (hnA : a.length = nA) (hnB : b.length = nB) (w : World) (hCA : Kd.C k38 w A nA a) (hcA : nA ≤ cA) (hCB : Kd.C k38 w B nB b) (hcB : nB ≤ cB) :
    Calls Try.prog 5 #[.slice A nA cA, .slice B nB cB] w fun e w' => e = .returned (.bool true) ∧ Below w.heap.size w w' := by
  have HCA := Aside0.mk hCA
  have HCB := Aside0.mk hCB
  have HB0 := Aside0.mk (Below.refl w.heap.size w)
  have hup := fun W => awake10.at_ W
  obtain ⟨ba, hea, ha60⟩ := fewevs_ev a
  obtain ⟨ka, hka⟩ := Ev.rounds hea
  obtain ⟨bb, heb, hb60⟩ := fewevs_ev b
  obtain ⟨kb, hkb⟩ := Ev.rounds heb
  have hfa : ∀ W, Kd.C k38 W A nA a → Calls Try.prog 13 #[.slice A nA cA] W fun e w' => e = .returned (.bool ba) ∧ Below W.heap.size W w' := fun W hC => by
    have h_ := reelkeeperlaw10_FewEvs.calls ka A cA a ba W (by rw [hnA]; exact hC) (by omega) hka
    rw [hnA] at h_
    exact h_
  have hfb : ∀ W, Kd.C k38 W B nB b → Calls Try.prog 13 #[.slice B nB cB] W fun e w' => e = .returned (.bool bb) ∧ Below W.heap.size W w' := fun W hC => by
    have h_ := reelkeeperlaw10_FewEvs.calls kb B cB b bb W (by rw [hnB]; exact hC) (by omega) hkb
    rw [hnB] at h_
    exact h_
  clear hCA hCB hea heb hka hkb
  cases hqa : ba with
  | false =>
    rw [hqa] at hfa
    clear hqa ha60 hb60
    go_enter Try.func5, Try.ntmps5
    go_wp2_with (first | (go_at_call 6; refine (hup _).mono ?_; rintro e_ w1 ⟨rfl, hb_⟩; have HB1 := Aside0.mk (below_step HB0.out hb_); clear hb_) | (go_at_call 13; (with_reducible refine (hfa _ (Kd.C_below HCA.out HB1.out)).mono ?_); rintro e_ w2 ⟨rfl, hb_⟩; have HB2 := Aside0.mk (below_step HB1.out hb_); clear hb_) | (go_at_call 13; (with_reducible refine (hfb _ (Kd.C_below HCB.out HB2.out)).mono ?_); rintro e_ w3 ⟨rfl, hb_⟩; have HB3 := Aside0.mk (below_step HB2.out hb_); clear hb_))
    go_ret
    exact ⟨rfl, HB3.out⟩
  | true =>
  rw [hqa] at hfa
  cases hqb : bb with
  | false =>
    rw [hqb] at hfb
    clear hqa hqb ha60 hb60
    go_enter Try.func5, Try.ntmps5
    go_wp2_with (first | (go_at_call 6; refine (hup _).mono ?_; rintro e_ w1 ⟨rfl, hb_⟩; have HB1 := Aside0.mk (below_step HB0.out hb_); clear hb_) | (go_at_call 13; (with_reducible refine (hfa _ (Kd.C_below HCA.out HB1.out)).mono ?_); rintro e_ w2 ⟨rfl, hb_⟩; have HB2 := Aside0.mk (below_step HB1.out hb_); clear hb_) | (go_at_call 13; (with_reducible refine (hfb _ (Kd.C_below HCB.out HB2.out)).mono ?_); rintro e_ w3 ⟨rfl, hb_⟩; have HB3 := Aside0.mk (below_step HB2.out hb_); clear hb_))
    go_ret
    exact ⟨rfl, HB3.out⟩
  | true =>
  rw [hqb] at hfb
  obtain ⟨hA60, hAS⟩ := ha60 hqa
  obtain ⟨hB60, hBS⟩ := hb60 hqb
  clear hqa hqb ha60 hb60
  by_cases h30 : 30 < nA
  · have b1 : decide ((nA : Int) > 30) = true := decide_eq_true (by omega)
    have b2 : decide ((30 : Int) < (nA : Int)) = true := decide_eq_true (by omega)
    have b3 : decide (30 < nA) = true := decide_eq_true h30
    clear h30
    go_enter Try.func5, Try.ntmps5
    go_wp2_with (first | (go_at_call 6; refine (hup _).mono ?_; rintro e_ w1 ⟨rfl, hb_⟩; have HB1 := Aside0.mk (below_step HB0.out hb_); clear hb_) | (go_at_call 13; (with_reducible refine (hfa _ (Kd.C_below HCA.out HB1.out)).mono ?_); rintro e_ w2 ⟨rfl, hb_⟩; have HB2 := Aside0.mk (below_step HB1.out hb_); clear hb_) | (go_at_call 13; (with_reducible refine (hfb _ (Kd.C_below HCB.out HB2.out)).mono ?_); rintro e_ w3 ⟨rfl, hb_⟩; have HB3 := Aside0.mk (below_step HB2.out hb_); clear hb_))
    go_ret
    exact ⟨rfl, HB3.out⟩
  have b1 : decide ((nA : Int) > 30) = false := decide_eq_false (by omega)
  have b2 : decide ((30 : Int) < (nA : Int)) = false := decide_eq_false (by omega)
  have b3 : decide (30 < nA) = false := decide_eq_false h30
  by_cases h31 : 30 < nB
  · have b4 : decide ((nB : Int) > 30) = true := decide_eq_true (by omega)
    have b5 : decide ((30 : Int) < (nB : Int)) = true := decide_eq_true (by omega)
    have b6 : decide (30 < nB) = true := decide_eq_true h31
    clear h30 h31
    go_enter Try.func5, Try.ntmps5
    go_wp2_with (first | (go_at_call 6; refine (hup _).mono ?_; rintro e_ w1 ⟨rfl, hb_⟩; have HB1 := Aside0.mk (below_step HB0.out hb_); clear hb_) | (go_at_call 13; (with_reducible refine (hfa _ (Kd.C_below HCA.out HB1.out)).mono ?_); rintro e_ w2 ⟨rfl, hb_⟩; have HB2 := Aside0.mk (below_step HB1.out hb_); clear hb_) | (go_at_call 13; (with_reducible refine (hfb _ (Kd.C_below HCB.out HB2.out)).mono ?_); rintro e_ w3 ⟨rfl, hb_⟩; have HB3 := Aside0.mk (below_step HB2.out hb_); clear hb_))
    go_ret
    exact ⟨rfl, HB3.out⟩
  have b4 : decide ((nB : Int) > 30) = false := decide_eq_false (by omega)
  have b5 : decide ((30 : Int) < (nB : Int)) = false := decide_eq_false (by omega)
  have b6 : decide (30 < nB) = false := decide_eq_false h31
  have hga0 := fun W hC => read_Gather.at_ A cA a (by omega) hAS W hC (by omega)
  have hgb0 := fun W hC => read_Gather.at_ B cB b (by omega) hBS W hC (by omega)
  obtain ⟨mAB, hmAB⟩ : ∃ k, (a ++ b).length = k := ⟨_, rfl⟩
  have hmAB2 : mAB = nA + nB := by rw [← hmAB, List.length_append, hnA, hnB]
  have hgab0 := fun A' c' W hC hc => read_Gather.at_ A' c' (a ++ b) (by omega) (fun v hv => (List.mem_append.1 hv).elim (hAS v) (hBS v)) W hC hc
  have hap := @gatherF_append a b
  have hla := gatherF_lenH a
  have hlb := gatherF_lenH b
  have HLAST := Aside0.mk (show ∀ v, a.getLast? = some v → ∃ p, p + 1 = nA ∧ a[p]? = some v from fun v hv => by
    rcases nil_or_snoc a with rfl | ⟨q, x, rfl⟩
    · cases hv
    · refine ⟨q.length, by rw [← hnA]; simp, ?_⟩
      have hx : x = v := by simpa using hv
      rw [← hx]; simp)
  obtain ⟨Ta, hTa⟩ : ∃ T, gatherF a = T := ⟨_, rfl⟩
  obtain ⟨Tb, hTb⟩ : ∃ T, gatherF b = T := ⟨_, rfl⟩
  obtain ⟨Tc, hTc⟩ : ∃ T, gatherF (a ++ b) = T := ⟨_, rfl⟩
  rw [hTa] at hga0 hap hla
  rw [hTb] at hgb0 hap hlb
  rw [hTc] at hgab0 hap
  obtain ⟨t, fa⟩ := Ta
  obtain ⟨u, fb⟩ := Tb
  obtain ⟨v, fc⟩ := Tc
  simp only at hga0 hgb0 hgab0 hap hla hlb
  obtain ⟨tL, htL⟩ : ∃ k, t.length = k := ⟨_, rfl⟩
  obtain ⟨uL, huL⟩ : ∃ k, u.length = k := ⟨_, rfl⟩
  obtain ⟨vL, hvL⟩ : ∃ k, v.length = k := ⟨_, rfl⟩
  have hga : ∀ W, Kd.C k38 W A nA a → Calls Try.prog 14 #[.slice A nA cA] W fun e w' => ∃ g : Option Addr, e = .returned (.tuple #[.slice g tL tL, .bool fa]) ∧ Aside0 (Kd.R kNd 31 w' W.heap.size (fun _ => True) (.slice g tL tL) t) ∧ Below W.heap.size W w' := fun W hC => by
    have h_ := hga0 W (by rw [hnA]; exact hC)
    rw [htL, hnA] at h_
    exact h_.mono fun e w' ⟨g, h1, h2, h3⟩ => ⟨some ⟨g, 0, none⟩, h1, h2, h3⟩
  have hgb : ∀ W, Kd.C k38 W B nB b → Calls Try.prog 14 #[.slice B nB cB] W fun e w' => ∃ g : Option Addr, e = .returned (.tuple #[.slice g uL uL, .bool fb]) ∧ Aside0 (Kd.R kNd 31 w' W.heap.size (fun _ => True) (.slice g uL uL) u) ∧ Below W.heap.size W w' := fun W hC => by
    have h_ := hgb0 W (by rw [hnB]; exact hC)
    rw [huL, hnB] at h_
    exact h_.mono fun e w' ⟨g, h1, h2, h3⟩ => ⟨some ⟨g, 0, none⟩, h1, h2, h3⟩
  have hgab : ∀ A' c' W, Kd.C k38 W A' mAB (a ++ b) → mAB ≤ c' → Calls Try.prog 14 #[.slice A' mAB c'] W fun e w' => ∃ g : Option Addr, e = .returned (.tuple #[.slice g vL vL, .bool fc]) ∧ Aside0 (Kd.R kNd 31 w' W.heap.size (fun _ => True) (.slice g vL vL) v) ∧ Below W.heap.size W w' := fun A' c' W hC hc => by
    have h_ := hgab0 A' c' W (by rw [hmAB]; exact hC) (by omega)
    rw [hvL, hmAB] at h_
    exact h_.mono fun e w' ⟨g, h1, h2, h3⟩ => ⟨some ⟨g, 0, none⟩, h1, h2, h3⟩
  have HAP := Aside0.mk hap
  have HNA := Aside0.mk (show nA ≤ 30 ∧ nB ≤ 30 by omega)
  have HTU := Aside0.mk (show tL ≤ 30 ∧ uL ≤ 30 by omega)
  have HAL := Aside0.mk hnA
  have HM5 := Aside0.mk hmAB
  have HLEN := Aside0.mk (And.intro htL (And.intro huL hvL))
  clear hga0 hgb0 hgab0 hap hla hlb htL huL hvL hmAB hmAB2 h30 h31 hA60 hB60 hAS hBS hTa hTb hTc hnB
  by_cases hlast : ∀ v, a.getLast? = some v → v.f0 = 2
  case neg =>
    obtain ⟨x, hx, h2⟩ : ∃ x, a.getLast? = some x ∧ x.f0 ≠ 2 := Classical.byContradiction fun h => hlast fun v hv => Classical.byContradiction fun h2 => h ⟨v, hv, h2⟩
    obtain ⟨p, hp, hap⟩ := HLAST.out x hx
    have z1 : decide ((nA : Int) > 0) = true := decide_eq_true (by omega)
    have z2 : decide ((0 : Int) < (nA : Int)) = true := decide_eq_true (by omega)
    have z3 : decide (0 < nA) = true := decide_eq_true (by omega)
    have hw0 : IntKind.i64.wrap ((nA : Int) - 1) = (p : Int) := by have h_ := HNA.out; rw [i64_w, wrap_id (by omega) (by omega)]; omega
    have hp0 : (0 : Int) ≤ (p : Int) := by omega
    have hp1 : (p : Int) < (nA : Int) := by omega
    have HXA := Aside0.mk hap
    have HPL := Aside0.mk (show p < nA by omega)
    have b2 : (x.f0 != 2) = true := by simp only [bne, beq_eq_false_iff_ne.2 h2]; rfl
    clear h2 hx hp hap HLAST hnA hlast
    go_enter Try.func5, Try.ntmps5
    go_upto_region 4 with (first | (go_at_call 6; refine (hup _).mono ?_; rintro e_ w1 ⟨rfl, hb_⟩; have HB1 := Aside0.mk (below_step HB0.out hb_); clear hb_) | (go_at_call 13; (with_reducible refine (hfa _ (Kd.C_below HCA.out HB1.out)).mono ?_); rintro e_ w2 ⟨rfl, hb_⟩; have HB2 := Aside0.mk (below_step HB1.out hb_); clear hb_) | (go_at_call 13; (with_reducible refine (hfb _ (Kd.C_below HCB.out HB2.out)).mono ?_); rintro e_ w3 ⟨rfl, hb_⟩; have HB3 := Aside0.mk (below_step HB2.out hb_); clear hb_))
    obtain ⟨adx, rfl, x0, _, _, _, _, _, _, _, _, _⟩ := ev_cellsH (Kd.C_below HCA.out HB3.out) HPL.out _ HXA.out
    go_wp2_with (fail)
    go_ret
    exact ⟨rfl, HB3.out⟩
  have HL2 := Aside0.mk hlast
  have HNZ : Aside0 (nA ≠ 0 → ∃ x p, p + 1 = nA ∧ a[p]? = some x ∧ x.f0 = 2) := ⟨fun hz => by
    obtain ⟨x, hx⟩ : ∃ x, a.getLast? = some x := by
      rcases nil_or_snoc a with rfl | ⟨q, x, rfl⟩
      · exact absurd hnA.symm hz
      · exact ⟨x, by simp⟩
    obtain ⟨p, hp, hap⟩ := HLAST.out x hx
    exact ⟨x, p, hp, hap, hlast x hx⟩⟩
  clear HLAST hnA hlast
  go_enter Try.func5, Try.ntmps5
  go_upto_region 4 with (first | (go_at_call 6; refine (hup _).mono ?_; rintro e_ w1 ⟨rfl, hb_⟩; have HB1 := Aside0.mk (below_step HB0.out hb_); clear hb_) | (go_at_call 13; (with_reducible refine (hfa _ (Kd.C_below HCA.out HB1.out)).mono ?_); rintro e_ w2 ⟨rfl, hb_⟩; have HB2 := Aside0.mk (below_step HB1.out hb_); clear hb_) | (go_at_call 13; (with_reducible refine (hfb _ (Kd.C_below HCB.out HB2.out)).mono ?_); rintro e_ w3 ⟨rfl, hb_⟩; have HB3 := Aside0.mk (below_step HB2.out hb_); clear hb_))
  go_cut [54] (fun v54 wc => v54 = .bool false ∧ wc = w3)
  case first =>
    by_cases hz : nA = 0
    · have z1 : decide ((nA : Int) > 0) = false := decide_eq_false (by omega)
      have z2 : decide ((0 : Int) < (nA : Int)) = false := decide_eq_false (by omega)
      have z3 : decide (0 < nA) = false := decide_eq_false (by omega)
      clear hz
      go_wp2_with (fail)
      go_meet
      case rel => exact ⟨rfl, rfl⟩
    · have z1 : decide ((nA : Int) > 0) = true := decide_eq_true (by omega)
      have z2 : decide ((0 : Int) < (nA : Int)) = true := decide_eq_true (by omega)
      have z3 : decide (0 < nA) = true := decide_eq_true (by omega)
      obtain ⟨x, p, hp, hap, h2⟩ := HNZ.out hz
      have hw0 : IntKind.i64.wrap ((nA : Int) - 1) = (p : Int) := by have h_ := HNA.out; rw [i64_w, wrap_id (by omega) (by omega)]; omega
      have hp0 : (0 : Int) ≤ (p : Int) := by omega
      have hp1 : (p : Int) < (nA : Int) := by omega
      have hpl : p < nA := by omega
      have b2 : (x.f0 != 2) = false := by rw [h2]; rfl
      clear hz h2 hp
      obtain ⟨adx, rfl, x0, _, _, _, _, _, _, _, _, _⟩ := ev_cellsH (Kd.C_below HCA.out HB3.out) hpl _ hap
      go_wp2_with (fail)
      go_meet
      case rel => exact ⟨rfl, rfl⟩
  case rest =>
  obtain ⟨rfl, rfl⟩ := hcut
  clear HNZ
  go_upto_region 7 with (go_at_call 14; refine (hga _ (Kd.C_below HCA.out HB3.out)).mono ?_; rintro e_ w4 ⟨A4, rfl, hR, hb_⟩; have HB4 := Aside0.mk (below_step HB3.out hb_); have HT4 := Aside0.mk (Kd.R_reads' hR.out).2.2; clear hb_ hR)
  go_upto_region 8 with (go_at_call 14; refine (hgb _ (Kd.C_below HCB.out HB4.out)).mono ?_; rintro e_ w5 ⟨A5, rfl, hR, hb_⟩; have HB5 := Aside0.mk (below_step HB4.out hb_); have HT5 := Aside0.mk (Kd.C_below HT4.out hb_); have HU5 := Aside0.mk (Kd.R_reads' hR.out).2.2; clear hb_ hR HT4)
  clear hup hfa hfb hga hgb
  go_upto_region 9 with (first | ((with_reducible refine gate_builtin (b := .append) (xs := #[(.const (.slice none 0 0)), (.tmp 67)]) rfl ?_); go_must (refine Kd.R_append_rows k38 (w0 := w5) w5.heap.size rfl (.const (.slice none 0 0)) (.tmp 67) 35 38 (.agg #[.int .i64 0, .string ⟨#[]⟩, .string ⟨#[]⟩, .int .u8 0, .int .i64 0, .int .i64 0, .int .i64 0, .int .i64 0, .string ⟨#[]⟩, .string ⟨#[]⟩]) 112 rfl Try.underlying35 info_ev rfl (by decide) (by decide) _ [] a A nA cA (fun _ => True) (fun _ => False) rfl rfl (Kd.R_nil _ _ _ _ _) (Kd.C_below HCA.out HB5.out) (fun _ _ h => h) (fun _ h => h.elim) (fun _ _ => trivial) (Below.refl _ _) (Nat.le_refl _) (by have h_ := HNA.out; simp; omega) ?_); intro v1 w6 hO hB hg hat; obtain ⟨A6, c6, rfl⟩ := Kd.R_slice hO; simp only [List.nil_append] at hO; rw [HAL.out] at hO; simp only [List.nil_append]; rw [HAL.out]; have HO6 := Aside0.mk hO; have HBB6 := Aside0.mk hB; clear hO hB hg hat) | ((with_reducible refine gate_builtin (b := .append) (xs := #[(.tmp 68), (.tmp 69)]) rfl ?_); go_must (refine Kd.R_append_rows k38 (w0 := w5) w5.heap.size rfl (.tmp 68) (.tmp 69) 35 38 (.agg #[.int .i64 0, .string ⟨#[]⟩, .string ⟨#[]⟩, .int .u8 0, .int .i64 0, .int .i64 0, .int .i64 0, .int .i64 0, .string ⟨#[]⟩, .string ⟨#[]⟩]) 112 rfl Try.underlying35 info_ev rfl (by decide) (by decide) _ a b B nB cB (fun _ => True) (fun _ => False) rfl rfl HO6.out (Kd.C_below (Kd.C_below HCB.out HB5.out) HBB6.out) (fun _ _ h => h) (fun _ h => h.elim) (fun _ _ => trivial) HBB6.out HBB6.out.size (by have h_ := HNA.out; have h2 := HAL.out; omega) ?_); intro v2 w7 hO hB hg hat; obtain ⟨A7, c7, rfl, hc7, hC7⟩ := Kd.R_reads hO; rw [HM5.out] at hC7 hc7 ⊢; have HC7 := Aside0.mk hC7; have HL7 := Aside0.mk hc7; have HBB7 := Aside0.mk hB; clear hO hB hg hat hC7 hc7) | (go_at_call 14; refine (hgab _ _ _ HC7.out HL7.out).mono ?_; rintro e_ w8 ⟨A8, rfl, hR, hb_⟩; have HBB8 := Aside0.mk (below_step HBB7.out hb_); have HV8 := Aside0.mk (Kd.R_reads' hR.out).2.2; clear hb_ hR))
  have HB8 := Aside0.mk (below_step HB5.out HBB8.out)
  have hap := HAP.out HL2.out
  obtain ⟨htL, huL, hvL⟩ := HLEN.out
  have HT8 := Aside0.mk (show Kd.C kNd w8 A4 tL t by have h_ := Kd.C_below HT5.out HBB8.out; rw [htL] at h_; exact h_)
  have HU8 := Aside0.mk (show Kd.C kNd w8 A5 uL u by have h_ := Kd.C_below HU5.out HBB8.out; rw [huL] at h_; exact h_)
  have HV8 := Aside0.mk (show Kd.C kNd w8 A8 vL v by have h_ := HV8.out; rw [hvL] at h_; exact h_)
  clear HO6 HC7 HL7 HBB6 HBB7 HBB8 HT5 HU5 HAP HL2 hgab
  cases fa with
  | false =>
    rw [if_neg (by decide)] at hap
    obtain ⟨rfl, rfl⟩ := Prod.mk.inj hap
    obtain rfl : tL = vL := by omega
    clear hap htL huL hvL HLEN
    go_wp2_with (fail)
    go_ret
    exact ⟨by simp, HB8.out⟩
  | true =>
    rw [if_pos rfl] at hap
    obtain ⟨hv, rfl⟩ := Prod.mk.inj hap
    have hvl : vL = tL + uL := by rw [← hvL, hv, List.length_append, htL, huL]
    have HVL := Aside0.mk hvl
    have HVE := Aside0.mk hv
    have hw1 : IntKind.i64.wrap ((tL : Int) + (uL : Int)) = (vL : Int) := by have h_ := HTU.out; rw [i64_w, wrap_id (by omega) (by omega)]; omega
    have HTL := Aside0.mk htL
    have HUL := Aside0.mk huL
    clear hap htL huL hvL HLEN hv hvl
    go_wp2_with (fail)
    go_loopw [14] (fun v14 wr => ∃ i : Nat, v14 = .int .i64 i ∧ i ≤ vL ∧ Aside0 (Below w.heap.size w wr) ∧ Aside0 (Kd.C kNd wr A4 tL t) ∧ Aside0 (Kd.C kNd wr A5 uL u) ∧ Aside0 (Kd.C kNd wr A8 vL v)) (fun v14 _ => vL - (intOf v14).toNat)
    case atStart => exact ⟨0, rfl, Nat.zero_le _, HB8, HT8, HU8, HV8⟩
    case round =>
      obtain ⟨i, rfl, hi, HBr, HTr, HUr, HVr⟩ := hrel
      clear HB8 HT8 HU8 HV8
      by_cases hlt : i < vL
      · have hi1 : (i : Int) < (vL : Int) := by omega
        have hi0 : (0 : Int) ≤ (i : Int) := by omega
        have hw : IntKind.i64.wrap ((i : Int) + 1) = ((i + 1 : Nat) : Int) := by have h_ := HTU.out; have h2 := HVL.out; rw [i64_w, wrap_id (by omega) (by omega)]; omega
        by_cases hit : i < tL
        · have ht : t[i]? = some (t[i]'(by rw [HTL.out]; exact hit)) := List.getElem?_eq_getElem _
          have hvi : v[i]? = some (t[i]'(by rw [HTL.out]; exact hit)) := by rw [HVE.out, List.getElem?_append_left (by rw [HTL.out]; exact hit)]; exact ht
          obtain ⟨av, rfl, k0, k1, k2, k3, k4, k5, k6, k7⟩ := nd_cells HVr.out hlt _ hvi
          obtain ⟨at_, rfl, l0, l1, l2, l3, l4, l5, l6, l7⟩ := nd_cells HTr.out hit _ ht
          generalize t[i]'(by rw [HTL.out]; exact hit) = y at *
          obtain ⟨y0, y1, y2, y3, y4, y5, y6, y7⟩ := y
          simp only at k0 k1 k2 k3 k4 k5 k6 k7 l0 l1 l2 l3 l4 l5 l6 l7
          have c1 : decide ((i : Int) < (tL : Int)) = true := decide_eq_true (by omega)
          have c2 : decide (i < tL) = true := decide_eq_true hit
          have c3 : decide ((i : Int) ≥ (tL : Int)) = false := decide_eq_false (by omega)
          have c4 : decide ((tL : Int) ≤ (i : Int)) = false := decide_eq_false (by omega)
          have c5 : decide (tL ≤ i) = false := decide_eq_false (by omega)
          have c6 : (i : Int) < (tL : Int) := by omega
          clear hvi ht
          go_upto_region 16 with (fail)
          refine start_ (n := 35) (S := fun w' => w'.cell? (av.add (i * 8)) = some (.string y0) ∧ w'.cell? ⟨(av.add (i * 8)).block, (av.add (i * 8)).off + 1, none⟩ = some (.string y1) ∧ w'.cell? ⟨(av.add (i * 8)).block, (av.add (i * 8)).off + 2, none⟩ = some (.int .u8 y2) ∧ w'.cell? ⟨(av.add (i * 8)).block, (av.add (i * 8)).off + 3, none⟩ = some (.int .i64 y3) ∧ w'.cell? ⟨(av.add (i * 8)).block, (av.add (i * 8)).off + 4, none⟩ = some (.int .i64 y4) ∧ w'.cell? ⟨(av.add (i * 8)).block, (av.add (i * 8)).off + 5, none⟩ = some (.int .i64 y5) ∧ w'.cell? ⟨(av.add (i * 8)).block, (av.add (i * 8)).off + 6, none⟩ = some (.int .i64 y6) ∧ w'.cell? ⟨(av.add (i * 8)).block, (av.add (i * 8)).off + 7, none⟩ = some (.string y7) ∧ w'.cell? (at_.add (i * 8)) = some (.string y0) ∧ w'.cell? ⟨(at_.add (i * 8)).block, (at_.add (i * 8)).off + 1, none⟩ = some (.string y1) ∧ w'.cell? ⟨(at_.add (i * 8)).block, (at_.add (i * 8)).off + 2, none⟩ = some (.int .u8 y2) ∧ w'.cell? ⟨(at_.add (i * 8)).block, (at_.add (i * 8)).off + 3, none⟩ = some (.int .i64 y3) ∧ w'.cell? ⟨(at_.add (i * 8)).block, (at_.add (i * 8)).off + 4, none⟩ = some (.int .i64 y4) ∧ w'.cell? ⟨(at_.add (i * 8)).block, (at_.add (i * 8)).off + 5, none⟩ = some (.int .i64 y5) ∧ w'.cell? ⟨(at_.add (i * 8)).block, (at_.add (i * 8)).off + 6, none⟩ = some (.int .i64 y6) ∧ w'.cell? ⟨(at_.add (i * 8)).block, (at_.add (i * 8)).off + 7, none⟩ = some (.string y7)) (ds := []) #[false, false, false, false, false, false, false, false, false, false, false, false, false, false, false, false, false, false, false, false, false, false, false, false, false, false, false, false, false, false, false, false, false, false, false] (by as_aux_lemma => kernel_rfl) rfl rfl ⟨k0, k1, k2, k3, k4, k5, k6, k7, l0, l1, l2, l3, l4, l5, l6, l7⟩ (fun hHeld => ?_)
          refine pure_ (i := 0) (N := some 104) (v := ?_) (a' := ?_) #[true, false, false, false, false, false, false, false, false, false, false, false, false, false, false, false, false, false, false, false, false, false, false, false, false, false, false, false, false, false, false, false, false, false, false] rfl rfl (by as_aux_lemma => kernel_rfl) (fun _ _ _ h => h) (Or.inl ⟨by rfl, ?_⟩) ?_ ?_
          rotate_left
          · intro w'
            go_simp
            with_reducible rfl
          rotate_left
          · simp only [Act.put, List.setIfInBounds_toArray, List.set_cons_zero, List.set_cons_succ, i64_w, i32_w]
            rfl
          refine pure_ (i := 1) (N := some 105) (v := ?_) (a' := ?_) #[true, true, false, false, false, false, false, false, false, false, false, false, false, false, false, false, false, false, false, false, false, false, false, false, false, false, false, false, false, false, false, false, false, false, false] rfl rfl (by as_aux_lemma => kernel_rfl) (fun _ _ _ h => h) (Or.inl ⟨by rfl, ?_⟩) ?_ ?_
          rotate_left
          · intro w'
            go_simp
            with_reducible rfl
          rotate_left
          · simp only [Act.put, List.setIfInBounds_toArray, List.set_cons_zero, List.set_cons_succ, i64_w, i32_w]
            rfl
          refine pure_ (i := 2) (N := some 106) (v := ?_) (a' := ?_) #[true, true, true, false, false, false, false, false, false, false, false, false, false, false, false, false, false, false, false, false, false, false, false, false, false, false, false, false, false, false, false, false, false, false, false] rfl rfl (by as_aux_lemma => kernel_rfl) (fun _ _ _ h => h) (Or.inl ⟨by rfl, ?_⟩) ?_ ?_
          rotate_left
          · intro w'
            go_simp
            with_reducible rfl
          rotate_left
          · simp only [Act.put, List.setIfInBounds_toArray, List.set_cons_zero, List.set_cons_succ, i64_w, i32_w]
            rfl
          refine pure_ (i := 3) (N := some 107) (v := ?_) (a' := ?_) #[true, true, true, true, false, false, false, false, false, false, false, false, false, false, false, false, false, false, false, false, false, false, false, false, false, false, false, false, false, false, false, false, false, false, false] rfl rfl (by as_aux_lemma => kernel_rfl) (fun _ _ _ h => h) (Or.inl ⟨by rfl, ?_⟩) ?_ ?_
          rotate_left
          · intro w'
            go_simp
            with_reducible rfl
          rotate_left
          · simp only [Act.put, List.setIfInBounds_toArray, List.set_cons_zero, List.set_cons_succ, i64_w, i32_w]
            rfl
          refine pure_ (i := 4) (N := some 108) (v := ?_) (a' := ?_) #[true, true, true, true, true, false, false, false, false, false, false, false, false, false, false, false, false, false, false, false, false, false, false, false, false, false, false, false, false, false, false, false, false, false, false] rfl rfl (by as_aux_lemma => kernel_rfl) (fun _ _ _ h => h) (Or.inl ⟨by rfl, ?_⟩) ?_ ?_
          rotate_left
          · intro w'
            go_simp
            with_reducible rfl
          rotate_left
          · simp only [Act.put, List.setIfInBounds_toArray, List.set_cons_zero, List.set_cons_succ, i64_w, i32_w]
            rfl
          refine pure_ (i := 5) (N := some 109) (v := ?_) (a' := ?_) #[true, true, true, true, true, true, false, false, false, false, false, false, false, false, false, false, false, false, false, false, false, false, false, false, false, false, false, false, false, false, false, false, false, false, false] rfl rfl (by as_aux_lemma => kernel_rfl) (fun _ _ _ h => h) (Or.inl ⟨by rfl, ?_⟩) ?_ ?_
          rotate_left
          · intro w'
            go_simp
            with_reducible rfl
          rotate_left
          · simp only [Act.put, List.setIfInBounds_toArray, List.set_cons_zero, List.set_cons_succ, i64_w, i32_w]
            rfl
          refine pure_ (i := 6) (N := some 110) (v := ?_) (a' := ?_) #[true, true, true, true, true, true, true, false, false, false, false, false, false, false, false, false, false, false, false, false, false, false, false, false, false, false, false, false, false, false, false, false, false, false, false] rfl rfl (by as_aux_lemma => kernel_rfl) (fun _ _ _ h => h) (Or.inl ⟨by rfl, ?_⟩) ?_ ?_
          rotate_left
          · intro w'
            go_simp
            with_reducible rfl
          rotate_left
          · simp only [Act.put, List.setIfInBounds_toArray, List.set_cons_zero, List.set_cons_succ, i64_w, i32_w]
            rfl
          refine pure_ (i := 7) (N := some 111) (v := ?_) (a' := ?_) #[true, true, true, true, true, true, true, true, false, false, false, false, false, false, false, false, false, false, false, false, false, false, false, false, false, false, false, false, false, false, false, false, false, false, false] rfl rfl (by as_aux_lemma => kernel_rfl) (fun _ _ _ h => h) (Or.inl ⟨by rfl, ?_⟩) ?_ ?_
          rotate_left
          · intro w'
            go_simp
            with_reducible rfl
          rotate_left
          · simp only [Act.put, List.setIfInBounds_toArray, List.set_cons_zero, List.set_cons_succ, i64_w, i32_w]
            rfl
          refine take_ (i := 8) (N := some 112) (v := ?_) (a' := ?_) #[true, true, true, true, true, true, true, true, true, false, false, false, false, false, false, false, false, false, false, false, false, false, false, false, false, false, false, false, false, false, false, false, false, false, false] rfl rfl (by as_aux_lemma => kernel_rfl) (fun _ _ _ h => h) (Or.inl ⟨by rfl, ?_⟩) hHeld ?_ ?_
          rotate_left
          · rintro w' ⟨s0, s1, s2, s3, s4, s5, s6, s7, s8, s9, s10, s11, s12, s13, s14, s15⟩
            go_simp
            with_reducible rfl
          rotate_left
          · simp only [Act.put, List.setIfInBounds_toArray, List.set_cons_zero, List.set_cons_succ, i64_w, i32_w]
            rfl
          refine pure_ (i := 9) (N := some 113) (v := ?_) (a' := ?_) #[true, true, true, true, true, true, true, true, true, true, false, false, false, false, false, false, false, false, false, false, false, false, false, false, false, false, false, false, false, false, false, false, false, false, false] rfl rfl (by as_aux_lemma => kernel_rfl) (fun _ _ _ h => h) (Or.inl ⟨by rfl, ?_⟩) ?_ ?_
          rotate_left
          · intro w'
            go_simp
            with_reducible rfl
          rotate_left
          · simp only [Act.put, List.setIfInBounds_toArray, List.set_cons_zero, List.set_cons_succ, i64_w, i32_w]
            rfl
          refine pure_ (i := 10) (N := some 114) (v := ?_) (a' := ?_) #[true, true, true, true, true, true, true, true, true, true, true, false, false, false, false, false, false, false, false, false, false, false, false, false, false, false, false, false, false, false, false, false, false, false, false] rfl rfl (by as_aux_lemma => kernel_rfl) (fun _ _ _ h => h) (Or.inl ⟨by rfl, ?_⟩) ?_ ?_
          rotate_left
          · intro w'
            go_simp
            with_reducible rfl
          rotate_left
          · simp only [Act.put, List.setIfInBounds_toArray, List.set_cons_zero, List.set_cons_succ, i64_w, i32_w]
            rfl
          refine pure_ (i := 11) (N := some 115) (v := ?_) (a' := ?_) #[true, true, true, true, true, true, true, true, true, true, true, true, false, false, false, false, false, false, false, false, false, false, false, false, false, false, false, false, false, false, false, false, false, false, false] rfl rfl (by as_aux_lemma => kernel_rfl) (fun _ _ _ h => h) (Or.inl ⟨by rfl, ?_⟩) ?_ ?_
          rotate_left
          · intro w'
            go_simp
            with_reducible rfl
          rotate_left
          · simp only [Act.put, List.setIfInBounds_toArray, List.set_cons_zero, List.set_cons_succ, i64_w, i32_w]
            rfl
          refine take_ (i := 12) (N := some 116) (v := ?_) (a' := ?_) #[true, true, true, true, true, true, true, true, true, true, true, true, true, false, false, false, false, false, false, false, false, false, false, false, false, false, false, false, false, false, false, false, false, false, false] rfl rfl (by as_aux_lemma => kernel_rfl) (fun _ _ _ h => h) (Or.inl ⟨by rfl, ?_⟩) hHeld ?_ ?_
          rotate_left
          · rintro w' ⟨s0, s1, s2, s3, s4, s5, s6, s7, s8, s9, s10, s11, s12, s13, s14, s15⟩
            go_simp
            with_reducible rfl
          rotate_left
          · simp only [Act.put, List.setIfInBounds_toArray, List.set_cons_zero, List.set_cons_succ, i64_w, i32_w]
            rfl
          refine pure_ (i := 13) (N := some 117) (v := ?_) (a' := ?_) #[true, true, true, true, true, true, true, true, true, true, true, true, true, true, false, false, false, false, false, false, false, false, false, false, false, false, false, false, false, false, false, false, false, false, false] rfl rfl (by as_aux_lemma => kernel_rfl) (fun _ _ _ h => h) (Or.inl ⟨by rfl, ?_⟩) ?_ ?_
          rotate_left
          · intro w'
            go_simp
            with_reducible rfl
          rotate_left
          · simp only [Act.put, List.setIfInBounds_toArray, List.set_cons_zero, List.set_cons_succ, i64_w, i32_w]
            rfl
          refine pure_ (i := 14) (N := some 118) (v := ?_) (a' := ?_) #[true, true, true, true, true, true, true, true, true, true, true, true, true, true, true, false, false, false, false, false, false, false, false, false, false, false, false, false, false, false, false, false, false, false, false] rfl rfl (by as_aux_lemma => kernel_rfl) (fun _ _ _ h => h) (Or.inl ⟨by rfl, ?_⟩) ?_ ?_
          rotate_left
          · intro w'
            go_simp
            with_reducible rfl
          rotate_left
          · simp only [Act.put, List.setIfInBounds_toArray, List.set_cons_zero, List.set_cons_succ, i64_w, i32_w]
            rfl
          refine pure_ (i := 15) (N := some 119) (v := ?_) (a' := ?_) #[true, true, true, true, true, true, true, true, true, true, true, true, true, true, true, true, false, false, false, false, false, false, false, false, false, false, false, false, false, false, false, false, false, false, false] rfl rfl (by as_aux_lemma => kernel_rfl) (fun _ _ _ h => h) (Or.inl ⟨by rfl, ?_⟩) ?_ ?_
          rotate_left
          · intro w'
            go_simp
            with_reducible rfl
          rotate_left
          · simp only [Act.put, List.setIfInBounds_toArray, List.set_cons_zero, List.set_cons_succ, i64_w, i32_w]
            rfl
          refine pure_ (i := 16) (N := some 120) (v := ?_) (a' := ?_) #[true, true, true, true, true, true, true, true, true, true, true, true, true, true, true, true, true, false, false, false, false, false, false, false, false, false, false, false, false, false, false, false, false, false, false] rfl rfl (by as_aux_lemma => kernel_rfl) (fun _ _ _ h => h) (Or.inl ⟨by rfl, ?_⟩) ?_ ?_
          rotate_left
          · intro w'
            go_simp
            with_reducible rfl
          rotate_left
          · simp only [Act.put, List.setIfInBounds_toArray, List.set_cons_zero, List.set_cons_succ, i64_w, i32_w]
            rfl
          refine pure_ (i := 17) (N := some 121) (v := ?_) (a' := ?_) #[true, true, true, true, true, true, true, true, true, true, true, true, true, true, true, true, true, true, false, false, false, false, false, false, false, false, false, false, false, false, false, false, false, false, false] rfl rfl (by as_aux_lemma => kernel_rfl) (fun _ _ _ h => h) (Or.inl ⟨by rfl, ?_⟩) ?_ ?_
          rotate_left
          · intro w'
            go_simp
            with_reducible rfl
          rotate_left
          · simp only [Act.put, List.setIfInBounds_toArray, List.set_cons_zero, List.set_cons_succ, i64_w, i32_w]
            rfl
          refine pure_ (i := 18) (N := some 122) (v := ?_) (a' := ?_) #[true, true, true, true, true, true, true, true, true, true, true, true, true, true, true, true, true, true, true, false, false, false, false, false, false, false, false, false, false, false, false, false, false, false, false] rfl rfl (by as_aux_lemma => kernel_rfl) (fun _ _ _ h => h) (Or.inl ⟨by rfl, ?_⟩) ?_ ?_
          rotate_left
          · intro w'
            go_simp
            with_reducible rfl
          rotate_left
          · simp only [Act.put, List.setIfInBounds_toArray, List.set_cons_zero, List.set_cons_succ, i64_w, i32_w]
            rfl
          refine pure_ (i := 19) (N := some 123) (v := ?_) (a' := ?_) #[true, true, true, true, true, true, true, true, true, true, true, true, true, true, true, true, true, true, true, true, false, false, false, false, false, false, false, false, false, false, false, false, false, false, false] rfl rfl (by as_aux_lemma => kernel_rfl) (fun _ _ _ h => h) (Or.inl ⟨by rfl, ?_⟩) ?_ ?_
          rotate_left
          · intro w'
            go_simp
            with_reducible rfl
          rotate_left
          · simp only [Act.put, List.setIfInBounds_toArray, List.set_cons_zero, List.set_cons_succ, i64_w, i32_w]
            rfl
          refine pure_ (i := 20) (N := some 124) (v := ?_) (a' := ?_) #[true, true, true, true, true, true, true, true, true, true, true, true, true, true, true, true, true, true, true, true, true, false, false, false, false, false, false, false, false, false, false, false, false, false, false] rfl rfl (by as_aux_lemma => kernel_rfl) (fun _ _ _ h => h) (Or.inl ⟨by rfl, ?_⟩) ?_ ?_
          rotate_left
          · intro w'
            go_simp
            with_reducible rfl
          rotate_left
          · simp only [Act.put, List.setIfInBounds_toArray, List.set_cons_zero, List.set_cons_succ, i64_w, i32_w]
            rfl
          refine pure_ (i := 21) (N := some 125) (v := undef) (a' := ?_) #[true, true, true, true, true, true, true, true, true, true, true, true, true, true, true, true, true, true, true, true, true, true, false, false, false, false, false, false, false, false, false, false, false, false, false] rfl rfl (by as_aux_lemma => kernel_rfl) (fun _ _ _ h => h) (Or.inr ⟨by rfl, rfl⟩) ?_ ?_
          rotate_left
          · simp only [Act.put, List.setIfInBounds_toArray, List.set_cons_zero, List.set_cons_succ, i64_w, i32_w]
            rfl
          refine pure_ (i := 22) (N := some 126) (v := undef) (a' := ?_) #[true, true, true, true, true, true, true, true, true, true, true, true, true, true, true, true, true, true, true, true, true, true, true, false, false, false, false, false, false, false, false, false, false, false, false] rfl rfl (by as_aux_lemma => kernel_rfl) (fun _ _ _ h => h) (Or.inr ⟨by rfl, rfl⟩) ?_ ?_
          rotate_left
          · simp only [Act.put, List.setIfInBounds_toArray, List.set_cons_zero, List.set_cons_succ, i64_w, i32_w]
            rfl
          refine pure_ (i := 23) (N := some 127) (v := undef) (a' := ?_) #[true, true, true, true, true, true, true, true, true, true, true, true, true, true, true, true, true, true, true, true, true, true, true, true, false, false, false, false, false, false, false, false, false, false, false] rfl rfl (by as_aux_lemma => kernel_rfl) (fun _ _ _ h => h) (Or.inr ⟨by rfl, rfl⟩) ?_ ?_
          rotate_left
          · simp only [Act.put, List.setIfInBounds_toArray, List.set_cons_zero, List.set_cons_succ, i64_w, i32_w]
            rfl
          refine pure_ (i := 24) (N := some 128) (v := undef) (a' := ?_) #[true, true, true, true, true, true, true, true, true, true, true, true, true, true, true, true, true, true, true, true, true, true, true, true, true, false, false, false, false, false, false, false, false, false, false] rfl rfl (by as_aux_lemma => kernel_rfl) (fun _ _ _ h => h) (Or.inr ⟨by rfl, rfl⟩) ?_ ?_
          rotate_left
          · simp only [Act.put, List.setIfInBounds_toArray, List.set_cons_zero, List.set_cons_succ, i64_w, i32_w]
            rfl
          refine pure_ (i := 25) (N := some 129) (v := undef) (a' := ?_) #[true, true, true, true, true, true, true, true, true, true, true, true, true, true, true, true, true, true, true, true, true, true, true, true, true, true, false, false, false, false, false, false, false, false, false] rfl rfl (by as_aux_lemma => kernel_rfl) (fun _ _ _ h => h) (Or.inr ⟨by rfl, rfl⟩) ?_ ?_
          rotate_left
          · simp only [Act.put, List.setIfInBounds_toArray, List.set_cons_zero, List.set_cons_succ, i64_w, i32_w]
            rfl
          refine pure_ (i := 26) (N := some 130) (v := undef) (a' := ?_) #[true, true, true, true, true, true, true, true, true, true, true, true, true, true, true, true, true, true, true, true, true, true, true, true, true, true, true, false, false, false, false, false, false, false, false] rfl rfl (by as_aux_lemma => kernel_rfl) (fun _ _ _ h => h) (Or.inr ⟨by rfl, rfl⟩) ?_ ?_
          rotate_left
          · simp only [Act.put, List.setIfInBounds_toArray, List.set_cons_zero, List.set_cons_succ, i64_w, i32_w]
            rfl
          refine pure_ (i := 27) (N := some 131) (v := undef) (a' := ?_) #[true, true, true, true, true, true, true, true, true, true, true, true, true, true, true, true, true, true, true, true, true, true, true, true, true, true, true, true, false, false, false, false, false, false, false] rfl rfl (by as_aux_lemma => kernel_rfl) (fun _ _ _ h => h) (Or.inr ⟨by rfl, rfl⟩) ?_ ?_
          rotate_left
          · simp only [Act.put, List.setIfInBounds_toArray, List.set_cons_zero, List.set_cons_succ, i64_w, i32_w]
            rfl
          refine pure_ (i := 28) (N := some 132) (v := undef) (a' := ?_) #[true, true, true, true, true, true, true, true, true, true, true, true, true, true, true, true, true, true, true, true, true, true, true, true, true, true, true, true, true, false, false, false, false, false, false] rfl rfl (by as_aux_lemma => kernel_rfl) (fun _ _ _ h => h) (Or.inr ⟨by rfl, rfl⟩) ?_ ?_
          rotate_left
          · simp only [Act.put, List.setIfInBounds_toArray, List.set_cons_zero, List.set_cons_succ, i64_w, i32_w]
            rfl
          refine pure_ (i := 29) (N := some 133) (v := undef) (a' := ?_) #[true, true, true, true, true, true, true, true, true, true, true, true, true, true, true, true, true, true, true, true, true, true, true, true, true, true, true, true, true, true, false, false, false, false, false] rfl rfl (by as_aux_lemma => kernel_rfl) (fun _ _ _ h => h) (Or.inr ⟨by rfl, rfl⟩) ?_ ?_
          rotate_left
          · simp only [Act.put, List.setIfInBounds_toArray, List.set_cons_zero, List.set_cons_succ, i64_w, i32_w]
            rfl
          refine pure_ (i := 30) (N := some 134) (v := undef) (a' := ?_) #[true, true, true, true, true, true, true, true, true, true, true, true, true, true, true, true, true, true, true, true, true, true, true, true, true, true, true, true, true, true, true, false, false, false, false] rfl rfl (by as_aux_lemma => kernel_rfl) (fun _ _ _ h => h) (Or.inr ⟨by rfl, rfl⟩) ?_ ?_
          rotate_left
          · simp only [Act.put, List.setIfInBounds_toArray, List.set_cons_zero, List.set_cons_succ, i64_w, i32_w]
            rfl
          refine pure_ (i := 31) (N := some 135) (v := undef) (a' := ?_) #[true, true, true, true, true, true, true, true, true, true, true, true, true, true, true, true, true, true, true, true, true, true, true, true, true, true, true, true, true, true, true, true, false, false, false] rfl rfl (by as_aux_lemma => kernel_rfl) (fun _ _ _ h => h) (Or.inr ⟨by rfl, rfl⟩) ?_ ?_
          rotate_left
          · simp only [Act.put, List.setIfInBounds_toArray, List.set_cons_zero, List.set_cons_succ, i64_w, i32_w]
            rfl
          refine pure_ (i := 32) (N := some 136) (v := undef) (a' := ?_) #[true, true, true, true, true, true, true, true, true, true, true, true, true, true, true, true, true, true, true, true, true, true, true, true, true, true, true, true, true, true, true, true, true, false, false] rfl rfl (by as_aux_lemma => kernel_rfl) (fun _ _ _ h => h) (Or.inr ⟨by rfl, rfl⟩) ?_ ?_
          rotate_left
          · simp only [Act.put, List.setIfInBounds_toArray, List.set_cons_zero, List.set_cons_succ, i64_w, i32_w]
            rfl
          refine pure_ (i := 33) (N := some 137) (v := ?_) (a' := ?_) #[true, true, true, true, true, true, true, true, true, true, true, true, true, true, true, true, true, true, true, true, true, true, true, true, true, true, true, true, true, true, true, true, true, true, false] rfl rfl (by as_aux_lemma => kernel_rfl) (fun _ _ _ h => h) (Or.inl ⟨by rfl, ?_⟩) ?_ ?_
          rotate_left
          · intro w'
            go_simp
            with_reducible rfl
          rotate_left
          · simp only [Act.put, List.setIfInBounds_toArray, List.set_cons_zero, List.set_cons_succ, i64_w, i32_w]
            rfl
          refine pure_ (i := 34) (N := some 138) (v := ?_) (a' := ?_) #[true, true, true, true, true, true, true, true, true, true, true, true, true, true, true, true, true, true, true, true, true, true, true, true, true, true, true, true, true, true, true, true, true, true, true] rfl rfl (by as_aux_lemma => kernel_rfl) (fun _ _ _ h => h) (Or.inl ⟨by rfl, ?_⟩) ?_ ?_
          rotate_left
          · intro w'
            go_simp
            with_reducible rfl
          rotate_left
          · simp only [Act.put, List.setIfInBounds_toArray, List.set_cons_zero, List.set_cons_succ, i64_w, i32_w]
            rfl
          refine done_ (by as_aux_lemma => kernel_rfl) ?_
          have HB9 := Aside0.mk (below_drew1 HBr.out)
          have HT9 := Aside0.mk (Kd.C_drew HTr.out)
          have HU9 := Aside0.mk (Kd.C_drew HUr.out)
          have HV9 := Aside0.mk (Kd.C_drew HVr.out)
          clear k0 k1 k2 k3 k4 k5 k6 k7 l0 l1 l2 l3 l4 l5 l6 l7
          go_wp2_with (fail)
          go_roundw
          case rel => exact ⟨i + 1, by go_num, by omega, HB9, HT9, HU9, HV9⟩
          case measure => simp [intOf]; omega
        · obtain ⟨q, hq⟩ : ∃ q, i = tL + q := ⟨i - tL, by omega⟩
          have hqu : q < uL := by have h2 := HVL.out; omega
          have huL2 : q < u.length := by rw [HUL.out]; exact hqu
          have hu : u[q]? = some u[q] := List.getElem?_eq_getElem huL2
          have hvi : v[i]? = some u[q] := by rw [HVE.out, List.getElem?_append_right (by rw [HTL.out]; omega), HTL.out, show i - tL = q by omega]; exact hu
          obtain ⟨av, rfl, k0, k1, k2, k3, k4, k5, k6, k7⟩ := nd_cells HVr.out hlt _ hvi
          obtain ⟨au, rfl, l0, l1, l2, l3, l4, l5, l6, l7⟩ := nd_cells HUr.out hqu _ hu
          generalize u[q] = y at *
          obtain ⟨y0, y1, y2, y3, y4, y5, y6, y7⟩ := y
          simp only at k0 k1 k2 k3 k4 k5 k6 k7 l0 l1 l2 l3 l4 l5 l6 l7
          have c1 : decide ((i : Int) < (tL : Int)) = false := decide_eq_false (by omega)
          have c2 : decide (i < tL) = false := decide_eq_false hit
          have c3 : decide ((i : Int) ≥ (tL : Int)) = true := decide_eq_true (by omega)
          have c4 : decide ((tL : Int) ≤ (i : Int)) = true := decide_eq_true (by omega)
          have c5 : decide (tL ≤ i) = true := decide_eq_true (by omega)
          have c6 : (q : Int) < (uL : Int) := by omega
          have c7 : (0 : Int) ≤ (q : Int) := by omega
          have c8 : IntKind.i64.wrap ((i : Int) - (tL : Int)) = (q : Int) := by have h_ := HTU.out; have h2 := HVL.out; rw [i64_w, wrap_id (by omega) (by omega)]; omega
          clear hvi hu huL2 hq
          go_upto_region 16 with (fail)
          refine start_ (n := 35) (S := fun w' => w'.cell? (av.add (i * 8)) = some (.string y0) ∧ w'.cell? ⟨(av.add (i * 8)).block, (av.add (i * 8)).off + 1, none⟩ = some (.string y1) ∧ w'.cell? ⟨(av.add (i * 8)).block, (av.add (i * 8)).off + 2, none⟩ = some (.int .u8 y2) ∧ w'.cell? ⟨(av.add (i * 8)).block, (av.add (i * 8)).off + 3, none⟩ = some (.int .i64 y3) ∧ w'.cell? ⟨(av.add (i * 8)).block, (av.add (i * 8)).off + 4, none⟩ = some (.int .i64 y4) ∧ w'.cell? ⟨(av.add (i * 8)).block, (av.add (i * 8)).off + 5, none⟩ = some (.int .i64 y5) ∧ w'.cell? ⟨(av.add (i * 8)).block, (av.add (i * 8)).off + 6, none⟩ = some (.int .i64 y6) ∧ w'.cell? ⟨(av.add (i * 8)).block, (av.add (i * 8)).off + 7, none⟩ = some (.string y7) ∧ w'.cell? (au.add (q * 8)) = some (.string y0) ∧ w'.cell? ⟨(au.add (q * 8)).block, (au.add (q * 8)).off + 1, none⟩ = some (.string y1) ∧ w'.cell? ⟨(au.add (q * 8)).block, (au.add (q * 8)).off + 2, none⟩ = some (.int .u8 y2) ∧ w'.cell? ⟨(au.add (q * 8)).block, (au.add (q * 8)).off + 3, none⟩ = some (.int .i64 y3) ∧ w'.cell? ⟨(au.add (q * 8)).block, (au.add (q * 8)).off + 4, none⟩ = some (.int .i64 y4) ∧ w'.cell? ⟨(au.add (q * 8)).block, (au.add (q * 8)).off + 5, none⟩ = some (.int .i64 y5) ∧ w'.cell? ⟨(au.add (q * 8)).block, (au.add (q * 8)).off + 6, none⟩ = some (.int .i64 y6) ∧ w'.cell? ⟨(au.add (q * 8)).block, (au.add (q * 8)).off + 7, none⟩ = some (.string y7)) (ds := []) #[false, false, false, false, false, false, false, false, false, false, false, false, false, false, false, false, false, false, false, false, false, false, false, false, false, false, false, false, false, false, false, false, false, false, false] (by as_aux_lemma => kernel_rfl) rfl rfl ⟨k0, k1, k2, k3, k4, k5, k6, k7, l0, l1, l2, l3, l4, l5, l6, l7⟩ (fun hHeld => ?_)
          refine pure_ (i := 0) (N := some 104) (v := ?_) (a' := ?_) #[true, false, false, false, false, false, false, false, false, false, false, false, false, false, false, false, false, false, false, false, false, false, false, false, false, false, false, false, false, false, false, false, false, false, false] rfl rfl (by as_aux_lemma => kernel_rfl) (fun _ _ _ h => h) (Or.inl ⟨by rfl, ?_⟩) ?_ ?_
          rotate_left
          · intro w'
            go_simp
            with_reducible rfl
          rotate_left
          · simp only [Act.put, List.setIfInBounds_toArray, List.set_cons_zero, List.set_cons_succ, i64_w, i32_w]
            rfl
          refine pure_ (i := 1) (N := some 105) (v := ?_) (a' := ?_) #[true, true, false, false, false, false, false, false, false, false, false, false, false, false, false, false, false, false, false, false, false, false, false, false, false, false, false, false, false, false, false, false, false, false, false] rfl rfl (by as_aux_lemma => kernel_rfl) (fun _ _ _ h => h) (Or.inl ⟨by rfl, ?_⟩) ?_ ?_
          rotate_left
          · intro w'
            go_simp
            with_reducible rfl
          rotate_left
          · simp only [Act.put, List.setIfInBounds_toArray, List.set_cons_zero, List.set_cons_succ, i64_w, i32_w]
            rfl
          refine pure_ (i := 2) (N := some 106) (v := ?_) (a' := ?_) #[true, true, true, false, false, false, false, false, false, false, false, false, false, false, false, false, false, false, false, false, false, false, false, false, false, false, false, false, false, false, false, false, false, false, false] rfl rfl (by as_aux_lemma => kernel_rfl) (fun _ _ _ h => h) (Or.inl ⟨by rfl, ?_⟩) ?_ ?_
          rotate_left
          · intro w'
            go_simp
            with_reducible rfl
          rotate_left
          · simp only [Act.put, List.setIfInBounds_toArray, List.set_cons_zero, List.set_cons_succ, i64_w, i32_w]
            rfl
          refine pure_ (i := 3) (N := some 107) (v := ?_) (a' := ?_) #[true, true, true, true, false, false, false, false, false, false, false, false, false, false, false, false, false, false, false, false, false, false, false, false, false, false, false, false, false, false, false, false, false, false, false] rfl rfl (by as_aux_lemma => kernel_rfl) (fun _ _ _ h => h) (Or.inl ⟨by rfl, ?_⟩) ?_ ?_
          rotate_left
          · intro w'
            go_simp
            with_reducible rfl
          rotate_left
          · simp only [Act.put, List.setIfInBounds_toArray, List.set_cons_zero, List.set_cons_succ, i64_w, i32_w]
            rfl
          refine pure_ (i := 4) (N := some 108) (v := ?_) (a' := ?_) #[true, true, true, true, true, false, false, false, false, false, false, false, false, false, false, false, false, false, false, false, false, false, false, false, false, false, false, false, false, false, false, false, false, false, false] rfl rfl (by as_aux_lemma => kernel_rfl) (fun _ _ _ h => h) (Or.inl ⟨by rfl, ?_⟩) ?_ ?_
          rotate_left
          · intro w'
            go_simp
            with_reducible rfl
          rotate_left
          · simp only [Act.put, List.setIfInBounds_toArray, List.set_cons_zero, List.set_cons_succ, i64_w, i32_w]
            rfl
          refine pure_ (i := 5) (N := some 109) (v := undef) (a' := ?_) #[true, true, true, true, true, true, false, false, false, false, false, false, false, false, false, false, false, false, false, false, false, false, false, false, false, false, false, false, false, false, false, false, false, false, false] rfl rfl (by as_aux_lemma => kernel_rfl) (fun _ _ _ h => h) (Or.inr ⟨by rfl, rfl⟩) ?_ ?_
          rotate_left
          · simp only [Act.put, List.setIfInBounds_toArray, List.set_cons_zero, List.set_cons_succ, i64_w, i32_w]
            rfl
          refine pure_ (i := 6) (N := some 110) (v := undef) (a' := ?_) #[true, true, true, true, true, true, true, false, false, false, false, false, false, false, false, false, false, false, false, false, false, false, false, false, false, false, false, false, false, false, false, false, false, false, false] rfl rfl (by as_aux_lemma => kernel_rfl) (fun _ _ _ h => h) (Or.inr ⟨by rfl, rfl⟩) ?_ ?_
          rotate_left
          · simp only [Act.put, List.setIfInBounds_toArray, List.set_cons_zero, List.set_cons_succ, i64_w, i32_w]
            rfl
          refine pure_ (i := 7) (N := some 111) (v := undef) (a' := ?_) #[true, true, true, true, true, true, true, true, false, false, false, false, false, false, false, false, false, false, false, false, false, false, false, false, false, false, false, false, false, false, false, false, false, false, false] rfl rfl (by as_aux_lemma => kernel_rfl) (fun _ _ _ h => h) (Or.inr ⟨by rfl, rfl⟩) ?_ ?_
          rotate_left
          · simp only [Act.put, List.setIfInBounds_toArray, List.set_cons_zero, List.set_cons_succ, i64_w, i32_w]
            rfl
          refine pure_ (i := 8) (N := some 112) (v := undef) (a' := ?_) #[true, true, true, true, true, true, true, true, true, false, false, false, false, false, false, false, false, false, false, false, false, false, false, false, false, false, false, false, false, false, false, false, false, false, false] rfl rfl (by as_aux_lemma => kernel_rfl) (fun _ _ _ h => h) (Or.inr ⟨by rfl, rfl⟩) ?_ ?_
          rotate_left
          · simp only [Act.put, List.setIfInBounds_toArray, List.set_cons_zero, List.set_cons_succ, i64_w, i32_w]
            rfl
          refine pure_ (i := 9) (N := some 113) (v := undef) (a' := ?_) #[true, true, true, true, true, true, true, true, true, true, false, false, false, false, false, false, false, false, false, false, false, false, false, false, false, false, false, false, false, false, false, false, false, false, false] rfl rfl (by as_aux_lemma => kernel_rfl) (fun _ _ _ h => h) (Or.inr ⟨by rfl, rfl⟩) ?_ ?_
          rotate_left
          · simp only [Act.put, List.setIfInBounds_toArray, List.set_cons_zero, List.set_cons_succ, i64_w, i32_w]
            rfl
          refine pure_ (i := 10) (N := some 114) (v := undef) (a' := ?_) #[true, true, true, true, true, true, true, true, true, true, true, false, false, false, false, false, false, false, false, false, false, false, false, false, false, false, false, false, false, false, false, false, false, false, false] rfl rfl (by as_aux_lemma => kernel_rfl) (fun _ _ _ h => h) (Or.inr ⟨by rfl, rfl⟩) ?_ ?_
          rotate_left
          · simp only [Act.put, List.setIfInBounds_toArray, List.set_cons_zero, List.set_cons_succ, i64_w, i32_w]
            rfl
          refine pure_ (i := 11) (N := some 115) (v := undef) (a' := ?_) #[true, true, true, true, true, true, true, true, true, true, true, true, false, false, false, false, false, false, false, false, false, false, false, false, false, false, false, false, false, false, false, false, false, false, false] rfl rfl (by as_aux_lemma => kernel_rfl) (fun _ _ _ h => h) (Or.inr ⟨by rfl, rfl⟩) ?_ ?_
          rotate_left
          · simp only [Act.put, List.setIfInBounds_toArray, List.set_cons_zero, List.set_cons_succ, i64_w, i32_w]
            rfl
          refine pure_ (i := 12) (N := some 116) (v := undef) (a' := ?_) #[true, true, true, true, true, true, true, true, true, true, true, true, true, false, false, false, false, false, false, false, false, false, false, false, false, false, false, false, false, false, false, false, false, false, false] rfl rfl (by as_aux_lemma => kernel_rfl) (fun _ _ _ h => h) (Or.inr ⟨by rfl, rfl⟩) ?_ ?_
          rotate_left
          · simp only [Act.put, List.setIfInBounds_toArray, List.set_cons_zero, List.set_cons_succ, i64_w, i32_w]
            rfl
          refine pure_ (i := 13) (N := some 117) (v := undef) (a' := ?_) #[true, true, true, true, true, true, true, true, true, true, true, true, true, true, false, false, false, false, false, false, false, false, false, false, false, false, false, false, false, false, false, false, false, false, false] rfl rfl (by as_aux_lemma => kernel_rfl) (fun _ _ _ h => h) (Or.inr ⟨by rfl, rfl⟩) ?_ ?_
          rotate_left
          · simp only [Act.put, List.setIfInBounds_toArray, List.set_cons_zero, List.set_cons_succ, i64_w, i32_w]
            rfl
          refine pure_ (i := 14) (N := some 118) (v := ?_) (a' := ?_) #[true, true, true, true, true, true, true, true, true, true, true, true, true, true, true, false, false, false, false, false, false, false, false, false, false, false, false, false, false, false, false, false, false, false, false] rfl rfl (by as_aux_lemma => kernel_rfl) (fun _ _ _ h => h) (Or.inl ⟨by rfl, ?_⟩) ?_ ?_
          rotate_left
          · intro w'
            go_simp
            with_reducible rfl
          rotate_left
          · simp only [Act.put, List.setIfInBounds_toArray, List.set_cons_zero, List.set_cons_succ, i64_w, i32_w]
            rfl
          refine pure_ (i := 15) (N := some 119) (v := ?_) (a' := ?_) #[true, true, true, true, true, true, true, true, true, true, true, true, true, true, true, true, false, false, false, false, false, false, false, false, false, false, false, false, false, false, false, false, false, false, false] rfl rfl (by as_aux_lemma => kernel_rfl) (fun _ _ _ h => h) (Or.inl ⟨by rfl, ?_⟩) ?_ ?_
          rotate_left
          · intro w'
            go_simp
            with_reducible rfl
          rotate_left
          · simp only [Act.put, List.setIfInBounds_toArray, List.set_cons_zero, List.set_cons_succ, i64_w, i32_w]
            rfl
          refine pure_ (i := 16) (N := some 120) (v := ?_) (a' := ?_) #[true, true, true, true, true, true, true, true, true, true, true, true, true, true, true, true, true, false, false, false, false, false, false, false, false, false, false, false, false, false, false, false, false, false, false] rfl rfl (by as_aux_lemma => kernel_rfl) (fun _ _ _ h => h) (Or.inl ⟨by rfl, ?_⟩) ?_ ?_
          rotate_left
          · intro w'
            go_simp
            with_reducible rfl
          rotate_left
          · simp only [Act.put, List.setIfInBounds_toArray, List.set_cons_zero, List.set_cons_succ, i64_w, i32_w]
            rfl
          refine pure_ (i := 17) (N := some 121) (v := ?_) (a' := ?_) #[true, true, true, true, true, true, true, true, true, true, true, true, true, true, true, true, true, true, false, false, false, false, false, false, false, false, false, false, false, false, false, false, false, false, false] rfl rfl (by as_aux_lemma => kernel_rfl) (fun _ _ _ h => h) (Or.inl ⟨by rfl, ?_⟩) ?_ ?_
          rotate_left
          · intro w'
            go_simp
            with_reducible rfl
          rotate_left
          · simp only [Act.put, List.setIfInBounds_toArray, List.set_cons_zero, List.set_cons_succ, i64_w, i32_w]
            rfl
          refine pure_ (i := 18) (N := some 122) (v := ?_) (a' := ?_) #[true, true, true, true, true, true, true, true, true, true, true, true, true, true, true, true, true, true, true, false, false, false, false, false, false, false, false, false, false, false, false, false, false, false, false] rfl rfl (by as_aux_lemma => kernel_rfl) (fun _ _ _ h => h) (Or.inl ⟨by rfl, ?_⟩) ?_ ?_
          rotate_left
          · intro w'
            go_simp
            with_reducible rfl
          rotate_left
          · simp only [Act.put, List.setIfInBounds_toArray, List.set_cons_zero, List.set_cons_succ, i64_w, i32_w]
            rfl
          refine pure_ (i := 19) (N := some 123) (v := ?_) (a' := ?_) #[true, true, true, true, true, true, true, true, true, true, true, true, true, true, true, true, true, true, true, true, false, false, false, false, false, false, false, false, false, false, false, false, false, false, false] rfl rfl (by as_aux_lemma => kernel_rfl) (fun _ _ _ h => h) (Or.inl ⟨by rfl, ?_⟩) ?_ ?_
          rotate_left
          · intro w'
            go_simp
            with_reducible rfl
          rotate_left
          · simp only [Act.put, List.setIfInBounds_toArray, List.set_cons_zero, List.set_cons_succ, i64_w, i32_w]
            rfl
          refine pure_ (i := 20) (N := some 124) (v := ?_) (a' := ?_) #[true, true, true, true, true, true, true, true, true, true, true, true, true, true, true, true, true, true, true, true, true, false, false, false, false, false, false, false, false, false, false, false, false, false, false] rfl rfl (by as_aux_lemma => kernel_rfl) (fun _ _ _ h => h) (Or.inl ⟨by rfl, ?_⟩) ?_ ?_
          rotate_left
          · intro w'
            go_simp
            with_reducible rfl
          rotate_left
          · simp only [Act.put, List.setIfInBounds_toArray, List.set_cons_zero, List.set_cons_succ, i64_w, i32_w]
            rfl
          refine pure_ (i := 21) (N := some 125) (v := ?_) (a' := ?_) #[true, true, true, true, true, true, true, true, true, true, true, true, true, true, true, true, true, true, true, true, true, true, false, false, false, false, false, false, false, false, false, false, false, false, false] rfl rfl (by as_aux_lemma => kernel_rfl) (fun _ _ _ h => h) (Or.inl ⟨by rfl, ?_⟩) ?_ ?_
          rotate_left
          · intro w'
            go_simp
            with_reducible rfl
          rotate_left
          · simp only [Act.put, List.setIfInBounds_toArray, List.set_cons_zero, List.set_cons_succ, i64_w, i32_w]
            rfl
          refine pure_ (i := 22) (N := some 126) (v := ?_) (a' := ?_) #[true, true, true, true, true, true, true, true, true, true, true, true, true, true, true, true, true, true, true, true, true, true, true, false, false, false, false, false, false, false, false, false, false, false, false] rfl rfl (by as_aux_lemma => kernel_rfl) (fun _ _ _ h => h) (Or.inl ⟨by rfl, ?_⟩) ?_ ?_
          rotate_left
          · intro w'
            go_simp
            with_reducible rfl
          rotate_left
          · simp only [Act.put, List.setIfInBounds_toArray, List.set_cons_zero, List.set_cons_succ, i64_w, i32_w]
            rfl
          refine pure_ (i := 23) (N := some 127) (v := ?_) (a' := ?_) #[true, true, true, true, true, true, true, true, true, true, true, true, true, true, true, true, true, true, true, true, true, true, true, true, false, false, false, false, false, false, false, false, false, false, false] rfl rfl (by as_aux_lemma => kernel_rfl) (fun _ _ _ h => h) (Or.inl ⟨by rfl, ?_⟩) ?_ ?_
          rotate_left
          · intro w'
            go_simp
            with_reducible rfl
          rotate_left
          · simp only [Act.put, List.setIfInBounds_toArray, List.set_cons_zero, List.set_cons_succ, i64_w, i32_w]
            rfl
          refine take_ (i := 24) (N := some 128) (v := ?_) (a' := ?_) #[true, true, true, true, true, true, true, true, true, true, true, true, true, true, true, true, true, true, true, true, true, true, true, true, true, false, false, false, false, false, false, false, false, false, false] rfl rfl (by as_aux_lemma => kernel_rfl) (fun _ _ _ h => h) (Or.inl ⟨by rfl, ?_⟩) hHeld ?_ ?_
          rotate_left
          · rintro w' ⟨s0, s1, s2, s3, s4, s5, s6, s7, s8, s9, s10, s11, s12, s13, s14, s15⟩
            go_simp
            with_reducible rfl
          rotate_left
          · simp only [Act.put, List.setIfInBounds_toArray, List.set_cons_zero, List.set_cons_succ, i64_w, i32_w]
            rfl
          refine pure_ (i := 25) (N := some 129) (v := ?_) (a' := ?_) #[true, true, true, true, true, true, true, true, true, true, true, true, true, true, true, true, true, true, true, true, true, true, true, true, true, true, false, false, false, false, false, false, false, false, false] rfl rfl (by as_aux_lemma => kernel_rfl) (fun _ _ _ h => h) (Or.inl ⟨by rfl, ?_⟩) ?_ ?_
          rotate_left
          · intro w'
            go_simp
            with_reducible rfl
          rotate_left
          · simp only [Act.put, List.setIfInBounds_toArray, List.set_cons_zero, List.set_cons_succ, i64_w, i32_w]
            rfl
          refine pure_ (i := 26) (N := some 130) (v := ?_) (a' := ?_) #[true, true, true, true, true, true, true, true, true, true, true, true, true, true, true, true, true, true, true, true, true, true, true, true, true, true, true, false, false, false, false, false, false, false, false] rfl rfl (by as_aux_lemma => kernel_rfl) (fun _ _ _ h => h) (Or.inl ⟨by rfl, ?_⟩) ?_ ?_
          rotate_left
          · intro w'
            go_simp
            with_reducible rfl
          rotate_left
          · simp only [Act.put, List.setIfInBounds_toArray, List.set_cons_zero, List.set_cons_succ, i64_w, i32_w]
            rfl
          refine pure_ (i := 27) (N := some 131) (v := ?_) (a' := ?_) #[true, true, true, true, true, true, true, true, true, true, true, true, true, true, true, true, true, true, true, true, true, true, true, true, true, true, true, true, false, false, false, false, false, false, false] rfl rfl (by as_aux_lemma => kernel_rfl) (fun _ _ _ h => h) (Or.inl ⟨by rfl, ?_⟩) ?_ ?_
          rotate_left
          · intro w'
            go_simp
            with_reducible rfl
          rotate_left
          · simp only [Act.put, List.setIfInBounds_toArray, List.set_cons_zero, List.set_cons_succ, i64_w, i32_w]
            rfl
          refine pure_ (i := 28) (N := some 132) (v := ?_) (a' := ?_) #[true, true, true, true, true, true, true, true, true, true, true, true, true, true, true, true, true, true, true, true, true, true, true, true, true, true, true, true, true, false, false, false, false, false, false] rfl rfl (by as_aux_lemma => kernel_rfl) (fun _ _ _ h => h) (Or.inl ⟨by rfl, ?_⟩) ?_ ?_
          rotate_left
          · intro w'
            go_simp
            with_reducible rfl
          rotate_left
          · simp only [Act.put, List.setIfInBounds_toArray, List.set_cons_zero, List.set_cons_succ, i64_w, i32_w]
            rfl
          refine pure_ (i := 29) (N := some 133) (v := ?_) (a' := ?_) #[true, true, true, true, true, true, true, true, true, true, true, true, true, true, true, true, true, true, true, true, true, true, true, true, true, true, true, true, true, true, false, false, false, false, false] rfl rfl (by as_aux_lemma => kernel_rfl) (fun _ _ _ h => h) (Or.inl ⟨by rfl, ?_⟩) ?_ ?_
          rotate_left
          · intro w'
            go_simp
            with_reducible rfl
          rotate_left
          · simp only [Act.put, List.setIfInBounds_toArray, List.set_cons_zero, List.set_cons_succ, i64_w, i32_w]
            rfl
          refine pure_ (i := 30) (N := some 134) (v := ?_) (a' := ?_) #[true, true, true, true, true, true, true, true, true, true, true, true, true, true, true, true, true, true, true, true, true, true, true, true, true, true, true, true, true, true, true, false, false, false, false] rfl rfl (by as_aux_lemma => kernel_rfl) (fun _ _ _ h => h) (Or.inl ⟨by rfl, ?_⟩) ?_ ?_
          rotate_left
          · intro w'
            go_simp
            with_reducible rfl
          rotate_left
          · simp only [Act.put, List.setIfInBounds_toArray, List.set_cons_zero, List.set_cons_succ, i64_w, i32_w]
            rfl
          refine take_ (i := 31) (N := some 135) (v := ?_) (a' := ?_) #[true, true, true, true, true, true, true, true, true, true, true, true, true, true, true, true, true, true, true, true, true, true, true, true, true, true, true, true, true, true, true, true, false, false, false] rfl rfl (by as_aux_lemma => kernel_rfl) (fun _ _ _ h => h) (Or.inl ⟨by rfl, ?_⟩) hHeld ?_ ?_
          rotate_left
          · rintro w' ⟨s0, s1, s2, s3, s4, s5, s6, s7, s8, s9, s10, s11, s12, s13, s14, s15⟩
            go_simp
            with_reducible rfl
          rotate_left
          · simp only [Act.put, List.setIfInBounds_toArray, List.set_cons_zero, List.set_cons_succ, i64_w, i32_w]
            rfl
          refine pure_ (i := 32) (N := some 136) (v := ?_) (a' := ?_) #[true, true, true, true, true, true, true, true, true, true, true, true, true, true, true, true, true, true, true, true, true, true, true, true, true, true, true, true, true, true, true, true, true, false, false] rfl rfl (by as_aux_lemma => kernel_rfl) (fun _ _ _ h => h) (Or.inl ⟨by rfl, ?_⟩) ?_ ?_
          rotate_left
          · intro w'
            go_simp
            with_reducible rfl
          rotate_left
          · simp only [Act.put, List.setIfInBounds_toArray, List.set_cons_zero, List.set_cons_succ, i64_w, i32_w]
            rfl
          refine pure_ (i := 33) (N := some 137) (v := ?_) (a' := ?_) #[true, true, true, true, true, true, true, true, true, true, true, true, true, true, true, true, true, true, true, true, true, true, true, true, true, true, true, true, true, true, true, true, true, true, false] rfl rfl (by as_aux_lemma => kernel_rfl) (fun _ _ _ h => h) (Or.inl ⟨by rfl, ?_⟩) ?_ ?_
          rotate_left
          · intro w'
            go_simp
            with_reducible rfl
          rotate_left
          · simp only [Act.put, List.setIfInBounds_toArray, List.set_cons_zero, List.set_cons_succ, i64_w, i32_w]
            rfl
          refine pure_ (i := 34) (N := some 138) (v := ?_) (a' := ?_) #[true, true, true, true, true, true, true, true, true, true, true, true, true, true, true, true, true, true, true, true, true, true, true, true, true, true, true, true, true, true, true, true, true, true, true] rfl rfl (by as_aux_lemma => kernel_rfl) (fun _ _ _ h => h) (Or.inl ⟨by rfl, ?_⟩) ?_ ?_
          rotate_left
          · intro w'
            go_simp
            with_reducible rfl
          rotate_left
          · simp only [Act.put, List.setIfInBounds_toArray, List.set_cons_zero, List.set_cons_succ, i64_w, i32_w]
            rfl
          refine done_ (by as_aux_lemma => kernel_rfl) ?_
          have HB9 := Aside0.mk (below_drew1 HBr.out)
          have HT9 := Aside0.mk (Kd.C_drew HTr.out)
          have HU9 := Aside0.mk (Kd.C_drew HUr.out)
          have HV9 := Aside0.mk (Kd.C_drew HVr.out)
          clear k0 k1 k2 k3 k4 k5 k6 k7 l0 l1 l2 l3 l4 l5 l6 l7
          go_wp2_with (fail)
          go_roundw
          case rel => exact ⟨i + 1, by go_num, by omega, HB9, HT9, HU9, HV9⟩
          case measure => simp [intOf]; omega
      · obtain rfl : i = vL := by omega
        have hi1 : decide ((i : Int) < (i : Int)) = false := decide_eq_false (by omega)
        clear hlt
        go_wp2_with (fail)
        go_ret
        exact ⟨rfl, HBr.out⟩
theorem reelkeeperlaw10_ReadGathers.calls (k : Nat) (A0 : Option Addr) (c0 : Nat) (l0 : List Evt) (A1 : Option Addr) (c1 : Nat) (l1 : List Evt) (r : Bool) (w : World) (hC0 : Kd.C k38 w A0 l0.length l0) (hc0 : l0.length ≤ c0) (hC1 : Kd.C k38 w A1 l1.length l1) (hc1 : l1.length ≤ c1) (h : reelkeeperlaw10_ReadGathers.f k l0 l1 = some r) :
    Calls Try.prog 5 #[.slice A0 l0.length c0, .slice A1 l1.length c1] w fun e w' => e = .returned (.bool r) ∧ Below w.heap.size w w' := by
  obtain rfl : true = r := Option.some.inj h
  exact read_gathers.at_ A0 c0 l0 A1 c1 l1 _ _ rfl rfl w hC0 hc0 hC1 hc1

end Go.Proofs.Ytpedagpcblnnhaa.X
