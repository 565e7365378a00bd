import Derived.Test.YtlecnodlnkanaaaXK
import Derived.Test.YtlecnodlnkanaaaXGentry
import Derived.Test.YtlecnodlnkanaaaXGlaw08
import Derived.Test.YtlecnodlnkanaaaXGstream
import Derived.Test.YtlecnodlnkanaaaXGtree
import Derived.Test.YtlecnodlnkanaaaXreelkeeperlaw06Few
import Derived.Test.YtlecnodlnkanaaaP08a
import Derived.Deep.RegionHeld3
import Derived.Laws.EntriesVeiled
import Derived.WalkSpells
namespace Go.Proofs.Ytlecnodlnkanaaa.X
open Go.RowKit Go.Proofs.YtlecnodlnkanaaaW.PrintWords Go.Proofs.YtlecnodlnkanaaaW.PrintLast Go.Proofs.YtlecnodlnkanaaaW.PrintMore
attribute [local go_sem] max2_int min2_int max_two min_two
set_option linter.unusedVariables false
set_option linter.unusedSimpArgs false

open Go.Proofs.YtlecnodlnkanaaaY
def reelkeeperlaw08_StreamMany.f (k : Nat) (l0 : List Nd) (a1 : Int) : Option Bool := some true
theorem StreamMany_told (l : List Nd) (a : Int) : ∃ k, reelkeeperlaw08_StreamMany.f k l a = some true := ⟨0, rfl⟩
theorem entryMany_one {n : Nd} (h : oneB n = true) : entry_Many.f n.f0 n.f1 n.f2 n.f3 n.f4 n.f5 n.f6 n.f7 = some ((entryB n).length : Int) := by
  unfold entry_Many.f
  rw [entryPut_yes h]
  rfl
set_option maxHeartbeats 3200000 in
set_option maxRecDepth 100000 in
theorem reelkeeperlaw08_StreamMany.calls (k : Nat) (A0 : Option Addr) (c0 : Nat) (l0 : List Nd) (a1 : Int) (r : Bool) (w : World) (hr0 : Kd.C kNode w A0 l0.length l0) (hc0 : l0.length ≤ c0) (h : reelkeeperlaw08_StreamMany.f k l0 a1 = some r) :
    Calls Try.prog 12 #[.slice A0 l0.length c0, .int .i64 a1] w fun e w' => e = .returned (.bool r) ∧ Below w.heap.size w w' := by
  obtain rfl : true = r := Option.some.inj h
  clear h k
  have hup := fun W => awake8.at_ W
  obtain ⟨kf, hkf⟩ := Ev.rounds (few_ev l0)
  have hfew := fun W hC => reelkeeperlaw06_Few.calls kf A0 c0 l0 _ W hC hc0 hkf
  have HB := Aside0.mk (Below.refl w.heap.size w)
  have HC := Aside0.mk hr0
  have hlm : l0.length ≤ 9223372036854775807 := hr0.2.1
  clear hkf hr0
  cases hf : fewL l0 with
  | false =>
    rw [hf] at hfew
    clear hf
    go_enter Try.func12, Try.ntmps12
    go_wp2_with (first | (go_at_call 40; refine (hup _).mono ?_; rintro e wq ⟨rfl, hb⟩; have HBq := Aside0.mk (below_step (by repeat (first | exact HB.out | apply below_alloc | apply pw_below_drewN | apply below_drew1)) hb); have HCq := Aside0.mk (Kd.C_below (by repeat (first | exact HC.out | apply Kd.C_alloc | apply Kd.C_drewN | apply Kd.C_drew)) hb); clear HB HC  hb; have HB := HBq; have HC := HCq; clear HBq HCq ) | (go_at_call 41; refine (hfew _ (by repeat (first | exact HC.out | apply Kd.C_alloc | apply Kd.C_drewN | apply Kd.C_drew))).mono ?_; rintro e wq ⟨rfl, hb⟩; have HBq := Aside0.mk (below_step (by repeat (first | exact HB.out | apply below_alloc | apply pw_below_drewN | apply below_drew1)) hb); have HCq := Aside0.mk (Kd.C_below (by repeat (first | exact HC.out | apply Kd.C_alloc | apply Kd.C_drewN | apply Kd.C_drew)) hb); clear HB HC  hb; have HB := HBq; have HC := HCq; clear HBq HCq ))
    go_ret
    exact ⟨rfl, HB.out⟩
  | true =>
    rw [hf] at hfew
    obtain ⟨hl, hok⟩ := fewL_iff.1 hf
    obtain ⟨km, hkm⟩ := Ev.rounds (may_ev hok)
    have hmay := fun W hC => tree_May.calls km A0 c0 l0 _ W hC hc0 hkm
    clear hf
    cases hm : mayF l0 with
    | false =>
      rw [hm] at hmay hkm
      have hfacts : false = true → l0.length ≤ 20 ∧ ∀ x ∈ l0, oneB x = true := fun h => by cases h
      have hsta : ∀ W, Kd.C kNode W A0 l0.length l0 → Calls Try.prog 46 #[.slice A0 l0.length c0] W fun e w' => (∃ A c, e = .returned (.slice A 0 c) ∧ Aside0 (Kd.R (Kd.int .i64) 3 w' W.heap.size (fun _ => True) (.slice A 0 c) [])) ∧ Below W.heap.size W w' := fun W hC => (stream_Starts.at_ l0 km false hkm hfacts A0 c0 W hC hc0).mono (by
        rintro e w' ⟨v, rfl, hR, hB⟩
        rw [if_neg (by decide)] at hR
        obtain ⟨A, c, rfl⟩ := Kd.R_slice hR
        skip
        exact ⟨⟨A, c, rfl, ⟨hR⟩⟩, hB⟩)
      have hmn := fun W hC => stream_Many.at_ l0 km false hkm hfacts A0 c0 W hC hc0
      have e0 : manyT l0 false = 0 := rfl
      rw [e0] at hmn
      clear hm hkm hfacts e0
      go_enter Try.func12, Try.ntmps12
      go_wp2_with (first | (go_at_call 40; refine (hup _).mono ?_; rintro e wq ⟨rfl, hb⟩; have HBq := Aside0.mk (below_step (by repeat (first | exact HB.out | apply below_alloc | apply pw_below_drewN | apply below_drew1)) hb); have HCq := Aside0.mk (Kd.C_below (by repeat (first | exact HC.out | apply Kd.C_alloc | apply Kd.C_drewN | apply Kd.C_drew)) hb); clear HB HC  hb; have HB := HBq; have HC := HCq; clear HBq HCq ) | (go_at_call 41; refine (hfew _ (by repeat (first | exact HC.out | apply Kd.C_alloc | apply Kd.C_drewN | apply Kd.C_drew))).mono ?_; rintro e wq ⟨rfl, hb⟩; have HBq := Aside0.mk (below_step (by repeat (first | exact HB.out | apply below_alloc | apply pw_below_drewN | apply below_drew1)) hb); have HCq := Aside0.mk (Kd.C_below (by repeat (first | exact HC.out | apply Kd.C_alloc | apply Kd.C_drewN | apply Kd.C_drew)) hb); clear HB HC  hb; have HB := HBq; have HC := HCq; clear HBq HCq ) | (go_at_call 42; refine (hmay _ (by repeat (first | exact HC.out | apply Kd.C_alloc | apply Kd.C_drewN | apply Kd.C_drew))).mono ?_; rintro e wq ⟨rfl, hb⟩; have HBq := Aside0.mk (below_step (by repeat (first | exact HB.out | apply below_alloc | apply pw_below_drewN | apply below_drew1)) hb); have HCq := Aside0.mk (Kd.C_below (by repeat (first | exact HC.out | apply Kd.C_alloc | apply Kd.C_drewN | apply Kd.C_drew)) hb); have HSq := Aside0.mk (Kd.R_below (by repeat (first | exact HS.out | apply Kd.R_alloc | apply Kd.R_drewN)) hb); clear HB HC HS hb; have HB := HBq; have HC := HCq; have HS := HSq; clear HBq HCq HSq) | (go_at_call 46; refine (hsta _ (by repeat (first | exact HC.out | apply Kd.C_alloc | apply Kd.C_drewN | apply Kd.C_drew))).mono ?_; rintro e wq ⟨⟨AS, cS, rfl, HS⟩, hb⟩; have HBq := Aside0.mk (below_step (by repeat (first | exact HB.out | apply below_alloc | apply pw_below_drewN | apply below_drew1)) hb); have HCq := Aside0.mk (Kd.C_below (by repeat (first | exact HC.out | apply Kd.C_alloc | apply Kd.C_drewN | apply Kd.C_drew)) hb); clear HB HC  hb; have HB := HBq; have HC := HCq; clear HBq HCq ) | (go_at_call 47; refine (hmn _ (by repeat (first | exact HC.out | apply Kd.C_alloc | apply Kd.C_drewN | apply Kd.C_drew))).mono ?_; rintro e wq ⟨rfl, hb⟩; have HBq := Aside0.mk (below_step (by repeat (first | exact HB.out | apply below_alloc | apply pw_below_drewN | apply below_drew1)) hb); have HCq := Aside0.mk (Kd.C_below (by repeat (first | exact HC.out | apply Kd.C_alloc | apply Kd.C_drewN | apply Kd.C_drew)) hb); have HSq := Aside0.mk (Kd.R_below (by repeat (first | exact HS.out | apply Kd.R_alloc | apply Kd.R_drewN)) hb); clear HB HC HS hb; have HB := HBq; have HC := HCq; have HS := HSq; clear HBq HCq HSq))
      go_ret
      exact ⟨rfl, HB.out⟩
    | true =>
      rw [hm] at hmay hkm
      obtain ⟨h20, hone⟩ := mayF_facts hok hm
      have hfacts : true = true → l0.length ≤ 20 ∧ ∀ x ∈ l0, oneB x = true := fun _ => ⟨h20, hone⟩
      have HONE := Aside0.mk hone
      clear hm
      obtain ⟨nS, hnS⟩ : ∃ nS, (startsL l0).length = nS := ⟨_, rfl⟩
      have hsta : ∀ W, Kd.C kNode W A0 l0.length l0 → Calls Try.prog 46 #[.slice A0 l0.length c0] W fun e w' => (∃ A c, e = .returned (.slice A nS c) ∧ Aside0 (Kd.R (Kd.int .i64) 3 w' W.heap.size (fun _ => True) (.slice A nS c) (startsL l0))) ∧ Below W.heap.size W w' := fun W hC => (stream_Starts.at_ l0 km true hkm hfacts A0 c0 W hC hc0).mono (by
        rintro e w' ⟨v, rfl, hR, hB⟩
        rw [if_pos rfl] at hR
        obtain ⟨A, c, rfl⟩ := Kd.R_slice hR
        rw [hnS] at hR ⊢
        exact ⟨⟨A, c, rfl, ⟨hR⟩⟩, hB⟩)
      have hmn := fun W hC => stream_Many.at_ l0 km true hkm hfacts A0 c0 W hC hc0
      obtain ⟨m, hmL⟩ : ∃ m, (bodyB l0).length = m := ⟨_, rfl⟩
      obtain ⟨nL, hnL⟩ : ∃ nL, m + 2 = nL := ⟨_, rfl⟩
      have hmT : manyT l0 true = nL := by unfold manyT; rw [if_pos rfl, hmL, hnL]
      rw [hmT] at hmn
      have hbf := bodyB_few l0 (fun n hn => oneB_facts (hone n hn))
      have hsl := startsL_length l0
      rw [hnS] at hsl
      have f1 : IntKind.i64.wrap ((m : Int) + 2) = (nL : Int) := by rw [i64_w, wrap_id (by omega) (by omega)]; omega
      have f2 : IntKind.i64.wrap ((l0.length : Int) + 1) = (nS : Int) := by rw [i64_w, wrap_id (by omega) (by omega)]; omega
      have HSL := Aside0.mk hsl
      have HBF := Aside0.mk hbf
      have HML := Aside0.mk hmL
      have HNS := Aside0.mk hnS
      have HF1 := Aside0.mk f1
      have HF2 := Aside0.mk f2
      clear hfacts hkm hone hmT hnL hmL hsl hbf hnS f1 f2
      go_enter Try.func12, Try.ntmps12
      go_wp2_with (first | (go_at_call 40; refine (hup _).mono ?_; rintro e wq ⟨rfl, hb⟩; have HBq := Aside0.mk (below_step (by repeat (first | exact HB.out | apply below_alloc | apply pw_below_drewN | apply below_drew1)) hb); have HCq := Aside0.mk (Kd.C_below (by repeat (first | exact HC.out | apply Kd.C_alloc | apply Kd.C_drewN | apply Kd.C_drew)) hb); clear HB HC  hb; have HB := HBq; have HC := HCq; clear HBq HCq ) | (go_at_call 41; refine (hfew _ (by repeat (first | exact HC.out | apply Kd.C_alloc | apply Kd.C_drewN | apply Kd.C_drew))).mono ?_; rintro e wq ⟨rfl, hb⟩; have HBq := Aside0.mk (below_step (by repeat (first | exact HB.out | apply below_alloc | apply pw_below_drewN | apply below_drew1)) hb); have HCq := Aside0.mk (Kd.C_below (by repeat (first | exact HC.out | apply Kd.C_alloc | apply Kd.C_drewN | apply Kd.C_drew)) hb); clear HB HC  hb; have HB := HBq; have HC := HCq; clear HBq HCq ) | (go_at_call 42; refine (hmay _ (by repeat (first | exact HC.out | apply Kd.C_alloc | apply Kd.C_drewN | apply Kd.C_drew))).mono ?_; rintro e wq ⟨rfl, hb⟩; have HBq := Aside0.mk (below_step (by repeat (first | exact HB.out | apply below_alloc | apply pw_below_drewN | apply below_drew1)) hb); have HCq := Aside0.mk (Kd.C_below (by repeat (first | exact HC.out | apply Kd.C_alloc | apply Kd.C_drewN | apply Kd.C_drew)) hb); have HSq := Aside0.mk (Kd.R_below (by repeat (first | exact HS.out | apply Kd.R_alloc | apply Kd.R_drewN)) hb); clear HB HC HS hb; have HB := HBq; have HC := HCq; have HS := HSq; clear HBq HCq HSq) | (go_at_call 46; refine (hsta _ (by repeat (first | exact HC.out | apply Kd.C_alloc | apply Kd.C_drewN | apply Kd.C_drew))).mono ?_; rintro e wq ⟨⟨AS, cS, rfl, HS⟩, hb⟩; have HBq := Aside0.mk (below_step (by repeat (first | exact HB.out | apply below_alloc | apply pw_below_drewN | apply below_drew1)) hb); have HCq := Aside0.mk (Kd.C_below (by repeat (first | exact HC.out | apply Kd.C_alloc | apply Kd.C_drewN | apply Kd.C_drew)) hb); clear HB HC  hb; have HB := HBq; have HC := HCq; clear HBq HCq ))
      go_loopw [8, 9] (fun v8 v9 wr => ∃ i : Nat, v9 = .int .i64 i ∧ i ≤ l0.length ∧ v8 = .int .i64 ((bodyB (l0.take i)).length : Nat) ∧ Aside0 (Below w.heap.size w wr) ∧ Aside0 (Kd.C kNode wr A0 l0.length l0) ∧ Aside0 (∃ base, Kd.R (Kd.int .i64) 3 wr base (fun _ => True) (.slice AS nS cS) (startsL l0))) (fun _ v9 _ => l0.length - (intOf v9).toNat)
      case atStart => exact ⟨0, rfl, Nat.zero_le _, rfl, HB, HC, ⟨_, HS.out⟩⟩
      case round =>
        obtain ⟨i, rfl, hi, rfl, HBn, HCn, HSn⟩ := hrel
        clear HB HC HS
        have HB := HBn
        have HC := HCn
        clear HBn HCn
        obtain ⟨base, hSr⟩ := HSn.out
        clear HSn
        have HS := Aside0.mk hSr
        clear hSr
        by_cases hlt : i < l0.length
        · have hx1 := HONE.out _ (List.getElem_mem hlt)
          have hst := starts_step l0 hlt
          have hle := bodyB_take_le l0 (i + 1)
          have hML := HML.out
          have hBF := HBF.out
          have hSL := HSL.out
          have hR2 := Kd.R_reads' HS.out
          have hNS := HNS.out
          have hC2 : Kd.C (Kd.int .i64) _ AS (startsL l0).length (startsL l0) := hR2.2.2
          obtain ⟨adS, rfl, hel⟩ := Kd.at_int hC2 (i : Int) (by omega) (by omega)
          rw [Int.toNat_natCast, startsL_rd l0 (by omega)] at hel
          obtain ⟨ad, rfl, k0, k1, k2, k3, k4, k5, k6, k7⟩ := node_cells HC.out hlt l0[i] (List.getElem?_eq_getElem hlt)
          have hmny := fun W => entry_Many.calls _ _ _ _ _ _ _ _ _ W (entryMany_one hx1)
          obtain ⟨eL, heL⟩ : ∃ eL, (entryB l0[i]).length = eL := ⟨_, rfl⟩
          rw [heL] at hmny hst
          generalize l0[i] = x at *
          obtain ⟨f0, f1, f2, f3, f4, f5, f6, f7⟩ := x
          simp only at k0 k1 k2 k3 k4 k5 k6 k7 hmny
          obtain ⟨b2, hb2⟩ : ∃ b2, (bodyB (l0.take (i + 1))).length = b2 := ⟨_, rfl⟩
          rw [hb2] at hst hle
          have HB2 := Aside0.mk hb2
          generalize (bodyB (l0.take i)).length = b at *
          have g1 : IntKind.i64.wrap ((b : Int) + (eL : Int)) = (b2 : Int) := by rw [i64_w, wrap_id (by omega) (by omega)]; omega
          have g2 : IntKind.i64.wrap ((i : Int) + 1) = ((i + 1 : Nat) : Int) := by rw [i64_w, wrap_id (by omega) (by omega)]; omega
          have hi0 : (0 : Int) ≤ (i : Int) := by omega
          have hi1 : (i : Int) < (l0.length : Int) := by omega
          have hi2 : (i : Int) < (nS : Int) := by omega
          have hi3 : decide (nS ≤ i) = false := decide_eq_false (by omega)
          have hi4 : decide ((nS : Int) ≤ (i : Int)) = false := decide_eq_false (by omega)
          clear hst hle hML hBF hSL hR2 hNS hC2 hb2 heL hx1
          by_cases hik : a1 = (i : Int)
          · subst hik
            go_wp2_with (first | (go_at_call 28; refine (hmny _).mono ?_; rintro e wq ⟨rfl, hb⟩; have HBq := Aside0.mk (below_step (by repeat (first | exact HB.out | apply below_alloc | apply pw_below_drewN | apply below_drew1)) hb); have HCq := Aside0.mk (Kd.C_below (by repeat (first | exact HC.out | apply Kd.C_alloc | apply Kd.C_drewN | apply Kd.C_drew)) hb); have HSq := Aside0.mk (Kd.R_below (by repeat (first | exact HS.out | apply Kd.R_alloc | apply Kd.R_drewN)) hb); clear HB HC HS hb; have HB := HBq; have HC := HCq; have HS := HSq; clear HBq HCq HSq))
            go_roundw
            case rel => exact ⟨i + 1, by go_num, by omega, by rw [HB2.out], HB, HC, ⟨_, HS.out⟩⟩
            case measure => simp [intOf]; omega
          · have hi5 : ((i : Int) == a1) = false := beq_eq_false_iff_ne.2 (fun h => hik h.symm)
            go_wp2_with (first | (go_at_call 28; refine (hmny _).mono ?_; rintro e wq ⟨rfl, hb⟩; have HBq := Aside0.mk (below_step (by repeat (first | exact HB.out | apply below_alloc | apply pw_below_drewN | apply below_drew1)) hb); have HCq := Aside0.mk (Kd.C_below (by repeat (first | exact HC.out | apply Kd.C_alloc | apply Kd.C_drewN | apply Kd.C_drew)) hb); have HSq := Aside0.mk (Kd.R_below (by repeat (first | exact HS.out | apply Kd.R_alloc | apply Kd.R_drewN)) hb); clear HB HC HS hb; have HB := HBq; have HC := HCq; have HS := HSq; clear HBq HCq HSq))
            go_roundw
            case rel => exact ⟨i + 1, by go_num, by omega, by rw [HB2.out], HB, HC, ⟨_, HS.out⟩⟩
            case measure => simp [intOf]; omega
        · obtain rfl : i = l0.length := by omega
          have e2 : (bodyB (l0.take l0.length)).length = m := by rw [List.take_length]; exact HML.out
          rw [e2]
          have f1 := HF1.out
          have f2 := HF2.out
          clear e2 hlt
          go_wp2_with (first | (go_at_call 47; refine (hmn _ (by repeat (first | exact HC.out | apply Kd.C_alloc | apply Kd.C_drewN | apply Kd.C_drew))).mono ?_; rintro e wq ⟨rfl, hb⟩; have HBq := Aside0.mk (below_step (by repeat (first | exact HB.out | apply below_alloc | apply pw_below_drewN | apply below_drew1)) hb); have HCq := Aside0.mk (Kd.C_below (by repeat (first | exact HC.out | apply Kd.C_alloc | apply Kd.C_drewN | apply Kd.C_drew)) hb); have HSq := Aside0.mk (Kd.R_below (by repeat (first | exact HS.out | apply Kd.R_alloc | apply Kd.R_drewN)) hb); clear HB HC HS hb; have HB := HBq; have HC := HCq; have HS := HSq; clear HBq HCq HSq))
          go_ret
          exact ⟨rfl, HB.out⟩

end Go.Proofs.Ytlecnodlnkanaaa.X
