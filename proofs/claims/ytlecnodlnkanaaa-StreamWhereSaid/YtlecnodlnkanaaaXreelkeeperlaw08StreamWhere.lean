import Derived.Test.YtlecnodlnkanaaaXK
import Derived.Test.YtlecnodlnkanaaaXGblock
import Derived.Test.YtlecnodlnkanaaaXGlaw08
import Derived.Test.YtlecnodlnkanaaaXGslices
import Derived.Test.YtlecnodlnkanaaaXGstream
import Derived.Test.YtlecnodlnkanaaaXGtree
import Derived.Test.YtlecnodlnkanaaaXreelkeeperlaw06Few
import Derived.Test.YtlecnodlnkanaaaP08a
import Derived.Deep.RegionHeld3
import Derived.Laws.EntriesVeiled
import Derived.WalkSpells
namespace Go.Proofs.Ytlecnodlnkanaaa.X
open Go.RowKit Go.Proofs.YtlecnodlnkanaaaW.PrintWords Go.Proofs.YtlecnodlnkanaaaW.PrintLast Go.Proofs.YtlecnodlnkanaaaW.PrintMore
attribute [local go_sem] max2_int min2_int max_two min_two
set_option linter.unusedVariables false
set_option linter.unusedSimpArgs false

open Go.Proofs.YtlecnodlnkanaaaY
def reelkeeperlaw08_StreamWhere.f (k : Nat) (l0 : List Nd) (a1 : Int) : Option Bool := some true
theorem StreamWhere_told (l : List Nd) (a : Int) : ∃ k, reelkeeperlaw08_StreamWhere.f k l a = some true := ⟨0, rfl⟩
set_option maxHeartbeats 3200000 in
set_option maxRecDepth 100000 in
theorem reelkeeperlaw08_StreamWhere.calls (k : Nat) (A0 : Option Addr) (c0 : Nat) (l0 : List Nd) (a1 : Int) (r : Bool) (w : World) (hr0 : Kd.C kNode w A0 l0.length l0) (hc0 : l0.length ≤ c0) (h : reelkeeperlaw08_StreamWhere.f k l0 a1 = some r) :
    Calls Try.prog 10 #[.slice A0 l0.length c0, .int .i64 a1] w fun e w' => e = .returned (.bool r) ∧ Below w.heap.size w w' := by
  obtain rfl : true = r := Option.some.inj h
  clear h k
  have hup := fun W => awake8.at_ W
  obtain ⟨kf, hkf⟩ := Ev.rounds (few_ev l0)
  have hfew := fun W hC => reelkeeperlaw06_Few.calls kf A0 c0 l0 _ W hC hc0 hkf
  have HB := Aside0.mk (Below.refl w.heap.size w)
  have HC := Aside0.mk hr0
  have hlm : l0.length ≤ 9223372036854775807 := hr0.2.1
  clear hkf hr0
  cases hf : fewL l0 with
  | false =>
    rw [hf] at hfew
    clear hf
    go_enter Try.func10, Try.ntmps10
    go_wp2_with (first | (go_at_call 40; refine (hup _).mono ?_; rintro e wq ⟨rfl, hb⟩; have HBq := Aside0.mk (below_step (by repeat (first | exact HB.out | apply below_alloc | apply pw_below_drewN | apply below_drew1)) hb); have HCq := Aside0.mk (Kd.C_below (by repeat (first | exact HC.out | apply Kd.C_alloc | apply Kd.C_drewN | apply Kd.C_drew)) hb); clear HB HC  hb; have HB := HBq; have HC := HCq; clear HBq HCq ) | (go_at_call 41; refine (hfew _ (by repeat (first | exact HC.out | apply Kd.C_alloc | apply Kd.C_drewN | apply Kd.C_drew))).mono ?_; rintro e wq ⟨rfl, hb⟩; have HBq := Aside0.mk (below_step (by repeat (first | exact HB.out | apply below_alloc | apply pw_below_drewN | apply below_drew1)) hb); have HCq := Aside0.mk (Kd.C_below (by repeat (first | exact HC.out | apply Kd.C_alloc | apply Kd.C_drewN | apply Kd.C_drew)) hb); clear HB HC  hb; have HB := HBq; have HC := HCq; clear HBq HCq ))
    go_ret
    exact ⟨rfl, HB.out⟩
  | true =>
    rw [hf] at hfew
    obtain ⟨hl, hok⟩ := fewL_iff.1 hf
    obtain ⟨km, hkm⟩ := Ev.rounds (may_ev hok)
    have hmay := fun W hC => tree_May.calls km A0 c0 l0 _ W hC hc0 hkm
    clear hf
    cases hm : mayF l0 with
    | false =>
      rw [hm] at hmay
      clear hm hkm
      go_enter Try.func10, Try.ntmps10
      go_wp2_with (first | (go_at_call 40; refine (hup _).mono ?_; rintro e wq ⟨rfl, hb⟩; have HBq := Aside0.mk (below_step (by repeat (first | exact HB.out | apply below_alloc | apply pw_below_drewN | apply below_drew1)) hb); have HCq := Aside0.mk (Kd.C_below (by repeat (first | exact HC.out | apply Kd.C_alloc | apply Kd.C_drewN | apply Kd.C_drew)) hb); clear HB HC  hb; have HB := HBq; have HC := HCq; clear HBq HCq ) | (go_at_call 41; refine (hfew _ (by repeat (first | exact HC.out | apply Kd.C_alloc | apply Kd.C_drewN | apply Kd.C_drew))).mono ?_; rintro e wq ⟨rfl, hb⟩; have HBq := Aside0.mk (below_step (by repeat (first | exact HB.out | apply below_alloc | apply pw_below_drewN | apply below_drew1)) hb); have HCq := Aside0.mk (Kd.C_below (by repeat (first | exact HC.out | apply Kd.C_alloc | apply Kd.C_drewN | apply Kd.C_drew)) hb); clear HB HC  hb; have HB := HBq; have HC := HCq; clear HBq HCq ) | (go_at_call 42; refine (hmay _ (by repeat (first | exact HC.out | apply Kd.C_alloc | apply Kd.C_drewN | apply Kd.C_drew))).mono ?_; rintro e wq ⟨rfl, hb⟩; have HBq := Aside0.mk (below_step (by repeat (first | exact HB.out | apply below_alloc | apply pw_below_drewN | apply below_drew1)) hb); have HCq := Aside0.mk (Kd.C_below (by repeat (first | exact HC.out | apply Kd.C_alloc | apply Kd.C_drewN | apply Kd.C_drew)) hb); clear HB HC  hb; have HB := HBq; have HC := HCq; clear HBq HCq ))
      go_ret
      exact ⟨rfl, HB.out⟩
    | true =>
      rw [hm] at hmay hkm
      obtain ⟨h20, hone⟩ := mayF_facts hok hm
      have hfacts : true = true → l0.length ≤ 20 ∧ ∀ x ∈ l0, oneB x = true := fun _ => ⟨h20, hone⟩
      have HONE := Aside0.mk hone
      clear hm
      obtain ⟨L, hL⟩ : ∃ L, bodyB l0 ++ zeroB = L := ⟨_, rfl⟩
      have hall : ∀ W, Kd.C kNode W A0 l0.length l0 → Calls Try.prog 43 #[.slice A0 l0.length c0] W fun e w' => (∃ A c, e = .returned (.tuple #[.slice A L.length c, .bool true]) ∧ Aside0 (Kd.R kRow 42 w' W.heap.size (fun _ => True) (.slice A L.length c) L)) ∧ Below W.heap.size W w' := fun W hC => (stream_All.at_ l0 km true hkm hfacts A0 c0 W hC hc0).mono (by
        rintro e w' ⟨v, rfl, hR, hB⟩
        rw [if_pos rfl, hL] at hR
        obtain ⟨A, c, rfl⟩ := Kd.R_slice hR
        exact ⟨⟨A, c, rfl, ⟨hR⟩⟩, hB⟩)
      obtain ⟨m, hmL⟩ : ∃ m, (bodyB l0).length = m := ⟨_, rfl⟩
      obtain ⟨nL, hnL⟩ : ∃ nL, m + 2 = nL := ⟨_, rfl⟩
      have hLl : L.length = nL := by rw [← hL, List.length_append, hmL, ← hnL]; rfl
      have hbf := bodyB_few l0 (fun n hn => oneB_facts (hone n hn))
      have hwh : ∀ W, Kd.C kNode W A0 l0.length l0 → Calls Try.prog 44 #[.slice A0 l0.length c0, .int .i64 a1] W fun e w' => e = .returned (.tuple #[.int .i64 (whereT l0 true a1).1, .int .i64 (whereT l0 true a1).2]) ∧ Below W.heap.size W w' := fun W hC => stream_Where.at_ l0 a1 km true hkm hfacts A0 c0 W hC hc0
      have hmT : manyT l0 true = nL := by unfold manyT; rw [if_pos rfl, hmL, hnL]
      clear hfacts hkm hone
      rw [hLl] at hall
      by_cases h1 : a1 < 0
      · have e1 : whereT l0 true a1 = (-1, -1) := by unfold whereT; rw [if_pos (.inl h1)]
        rw [e1] at hwh
        have h1d := decide_eq_true h1
        clear h1 hmT e1 hLl hmL hL hbf hnL
        go_enter Try.func10, Try.ntmps10
        go_wp2_with (first | (go_at_call 40; refine (hup _).mono ?_; rintro e wq ⟨rfl, hb⟩; have HBq := Aside0.mk (below_step (by repeat (first | exact HB.out | apply below_alloc | apply pw_below_drewN | apply below_drew1)) hb); have HCq := Aside0.mk (Kd.C_below (by repeat (first | exact HC.out | apply Kd.C_alloc | apply Kd.C_drewN | apply Kd.C_drew)) hb); clear HB HC  hb; have HB := HBq; have HC := HCq; clear HBq HCq ) | (go_at_call 41; refine (hfew _ (by repeat (first | exact HC.out | apply Kd.C_alloc | apply Kd.C_drewN | apply Kd.C_drew))).mono ?_; rintro e wq ⟨rfl, hb⟩; have HBq := Aside0.mk (below_step (by repeat (first | exact HB.out | apply below_alloc | apply pw_below_drewN | apply below_drew1)) hb); have HCq := Aside0.mk (Kd.C_below (by repeat (first | exact HC.out | apply Kd.C_alloc | apply Kd.C_drewN | apply Kd.C_drew)) hb); clear HB HC  hb; have HB := HBq; have HC := HCq; clear HBq HCq ) | (go_at_call 42; refine (hmay _ (by repeat (first | exact HC.out | apply Kd.C_alloc | apply Kd.C_drewN | apply Kd.C_drew))).mono ?_; rintro e wq ⟨rfl, hb⟩; have HBq := Aside0.mk (below_step (by repeat (first | exact HB.out | apply below_alloc | apply pw_below_drewN | apply below_drew1)) hb); have HCq := Aside0.mk (Kd.C_below (by repeat (first | exact HC.out | apply Kd.C_alloc | apply Kd.C_drewN | apply Kd.C_drew)) hb); clear HB HC  hb; have HB := HBq; have HC := HCq; clear HBq HCq ) | (go_at_call 43; refine (hall _ (by repeat (first | exact HC.out | apply Kd.C_alloc | apply Kd.C_drewN | apply Kd.C_drew))).mono ?_; rintro e wq ⟨⟨AL, cL, rfl, HL⟩, hb⟩; have HBq := Aside0.mk (below_step (by repeat (first | exact HB.out | apply below_alloc | apply pw_below_drewN | apply below_drew1)) hb); have HCq := Aside0.mk (Kd.C_below (by repeat (first | exact HC.out | apply Kd.C_alloc | apply Kd.C_drewN | apply Kd.C_drew)) hb); clear HB HC  hb; have HB := HBq; have HC := HCq; clear HBq HCq ) | (go_at_call 44; refine (hwh _ (by repeat (first | exact HC.out | apply Kd.C_alloc | apply Kd.C_drewN | apply Kd.C_drew))).mono ?_; rintro e wq ⟨rfl, hb⟩; have HBq := Aside0.mk (below_step (by repeat (first | exact HB.out | apply below_alloc | apply pw_below_drewN | apply below_drew1)) hb); have HCq := Aside0.mk (Kd.C_below (by repeat (first | exact HC.out | apply Kd.C_alloc | apply Kd.C_drewN | apply Kd.C_drew)) hb); have HLq := Aside0.mk (Kd.R_below (by repeat (first | exact HL.out | apply Kd.R_alloc | apply Kd.R_drewN)) hb); clear HB HC HL hb; have HB := HBq; have HC := HCq; have HL := HLq; clear HBq HCq HLq))
        go_ret
        exact ⟨rfl, HB.out⟩
      · by_cases h2 : a1 ≥ (nL : Int)
        · have e1 : whereT l0 true a1 = (-1, -1) := by unfold whereT; rw [if_pos (.inr (by rw [hmT]; exact h2))]
          rw [e1] at hwh
          have h1d := decide_eq_false h1
          have h2d : decide ((nL : Int) ≤ a1) = true := decide_eq_true h2
          clear h1 h2 hmT e1 hLl hmL hL hbf hnL
          go_enter Try.func10, Try.ntmps10
          go_wp2_with (first | (go_at_call 40; refine (hup _).mono ?_; rintro e wq ⟨rfl, hb⟩; have HBq := Aside0.mk (below_step (by repeat (first | exact HB.out | apply below_alloc | apply pw_below_drewN | apply below_drew1)) hb); have HCq := Aside0.mk (Kd.C_below (by repeat (first | exact HC.out | apply Kd.C_alloc | apply Kd.C_drewN | apply Kd.C_drew)) hb); clear HB HC  hb; have HB := HBq; have HC := HCq; clear HBq HCq ) | (go_at_call 41; refine (hfew _ (by repeat (first | exact HC.out | apply Kd.C_alloc | apply Kd.C_drewN | apply Kd.C_drew))).mono ?_; rintro e wq ⟨rfl, hb⟩; have HBq := Aside0.mk (below_step (by repeat (first | exact HB.out | apply below_alloc | apply pw_below_drewN | apply below_drew1)) hb); have HCq := Aside0.mk (Kd.C_below (by repeat (first | exact HC.out | apply Kd.C_alloc | apply Kd.C_drewN | apply Kd.C_drew)) hb); clear HB HC  hb; have HB := HBq; have HC := HCq; clear HBq HCq ) | (go_at_call 42; refine (hmay _ (by repeat (first | exact HC.out | apply Kd.C_alloc | apply Kd.C_drewN | apply Kd.C_drew))).mono ?_; rintro e wq ⟨rfl, hb⟩; have HBq := Aside0.mk (below_step (by repeat (first | exact HB.out | apply below_alloc | apply pw_below_drewN | apply below_drew1)) hb); have HCq := Aside0.mk (Kd.C_below (by repeat (first | exact HC.out | apply Kd.C_alloc | apply Kd.C_drewN | apply Kd.C_drew)) hb); clear HB HC  hb; have HB := HBq; have HC := HCq; clear HBq HCq ) | (go_at_call 43; refine (hall _ (by repeat (first | exact HC.out | apply Kd.C_alloc | apply Kd.C_drewN | apply Kd.C_drew))).mono ?_; rintro e wq ⟨⟨AL, cL, rfl, HL⟩, hb⟩; have HBq := Aside0.mk (below_step (by repeat (first | exact HB.out | apply below_alloc | apply pw_below_drewN | apply below_drew1)) hb); have HCq := Aside0.mk (Kd.C_below (by repeat (first | exact HC.out | apply Kd.C_alloc | apply Kd.C_drewN | apply Kd.C_drew)) hb); clear HB HC  hb; have HB := HBq; have HC := HCq; clear HBq HCq ) | (go_at_call 44; refine (hwh _ (by repeat (first | exact HC.out | apply Kd.C_alloc | apply Kd.C_drewN | apply Kd.C_drew))).mono ?_; rintro e wq ⟨rfl, hb⟩; have HBq := Aside0.mk (below_step (by repeat (first | exact HB.out | apply below_alloc | apply pw_below_drewN | apply below_drew1)) hb); have HCq := Aside0.mk (Kd.C_below (by repeat (first | exact HC.out | apply Kd.C_alloc | apply Kd.C_drewN | apply Kd.C_drew)) hb); have HLq := Aside0.mk (Kd.R_below (by repeat (first | exact HL.out | apply Kd.R_alloc | apply Kd.R_drewN)) hb); clear HB HC HL hb; have HB := HBq; have HC := HCq; have HL := HLq; clear HBq HCq HLq))
          go_ret
          exact ⟨rfl, HB.out⟩
        · obtain ⟨i, rfl⟩ : ∃ i : Nat, a1 = (i : Int) := ⟨a1.toNat, by omega⟩
          have e0 : ¬ ((i : Int) < 0 ∨ (i : Int) ≥ (manyT l0 true : Int)) := by rw [hmT]; rintro (h | h); exact h1 h; exact h2 h
          have h1d := decide_eq_false h1
          have h2d : decide ((nL : Int) ≤ (i : Int)) = false := decide_eq_false h2
          have h2n : decide (nL ≤ i) = false := decide_eq_false (by omega)
          by_cases h3 : m ≤ i
          · have e1 : whereT l0 true i = ((l0.length : Int), -1) := by
              unfold whereT
              rw [if_neg e0, in_zero l0 i (by omega), if_pos (by decide)]
            rw [e1] at hwh
            have h4 : decide ((l0.length : Int) < 0) = false := decide_eq_false (by omega)
            have h5 : decide ((l0.length : Int) < (l0.length : Int)) = false := decide_eq_false (by omega)
            have h6 : ((l0.length : Int) == (l0.length : Int)) = true := beq_iff_eq.2 rfl
            have h7 : IntKind.i64.wrap ((nL : Int) - 2) = (m : Int) := by rw [i64_w, wrap_id (by omega) (by omega)]; omega
            have h8 : decide ((m : Int) ≤ (i : Int)) = true := decide_eq_true (by omega)
            have h8n : decide (m ≤ i) = true := decide_eq_true (by omega)
            clear h1 h2 hmT e1 hLl hmL hL hbf hnL e0 h3
            go_enter Try.func10, Try.ntmps10
            go_wp2_with (first | (go_at_call 40; refine (hup _).mono ?_; rintro e wq ⟨rfl, hb⟩; have HBq := Aside0.mk (below_step (by repeat (first | exact HB.out | apply below_alloc | apply pw_below_drewN | apply below_drew1)) hb); have HCq := Aside0.mk (Kd.C_below (by repeat (first | exact HC.out | apply Kd.C_alloc | apply Kd.C_drewN | apply Kd.C_drew)) hb); clear HB HC  hb; have HB := HBq; have HC := HCq; clear HBq HCq ) | (go_at_call 41; refine (hfew _ (by repeat (first | exact HC.out | apply Kd.C_alloc | apply Kd.C_drewN | apply Kd.C_drew))).mono ?_; rintro e wq ⟨rfl, hb⟩; have HBq := Aside0.mk (below_step (by repeat (first | exact HB.out | apply below_alloc | apply pw_below_drewN | apply below_drew1)) hb); have HCq := Aside0.mk (Kd.C_below (by repeat (first | exact HC.out | apply Kd.C_alloc | apply Kd.C_drewN | apply Kd.C_drew)) hb); clear HB HC  hb; have HB := HBq; have HC := HCq; clear HBq HCq ) | (go_at_call 42; refine (hmay _ (by repeat (first | exact HC.out | apply Kd.C_alloc | apply Kd.C_drewN | apply Kd.C_drew))).mono ?_; rintro e wq ⟨rfl, hb⟩; have HBq := Aside0.mk (below_step (by repeat (first | exact HB.out | apply below_alloc | apply pw_below_drewN | apply below_drew1)) hb); have HCq := Aside0.mk (Kd.C_below (by repeat (first | exact HC.out | apply Kd.C_alloc | apply Kd.C_drewN | apply Kd.C_drew)) hb); clear HB HC  hb; have HB := HBq; have HC := HCq; clear HBq HCq ) | (go_at_call 43; refine (hall _ (by repeat (first | exact HC.out | apply Kd.C_alloc | apply Kd.C_drewN | apply Kd.C_drew))).mono ?_; rintro e wq ⟨⟨AL, cL, rfl, HL⟩, hb⟩; have HBq := Aside0.mk (below_step (by repeat (first | exact HB.out | apply below_alloc | apply pw_below_drewN | apply below_drew1)) hb); have HCq := Aside0.mk (Kd.C_below (by repeat (first | exact HC.out | apply Kd.C_alloc | apply Kd.C_drewN | apply Kd.C_drew)) hb); clear HB HC  hb; have HB := HBq; have HC := HCq; clear HBq HCq ) | (go_at_call 44; refine (hwh _ (by repeat (first | exact HC.out | apply Kd.C_alloc | apply Kd.C_drewN | apply Kd.C_drew))).mono ?_; rintro e wq ⟨rfl, hb⟩; have HBq := Aside0.mk (below_step (by repeat (first | exact HB.out | apply below_alloc | apply pw_below_drewN | apply below_drew1)) hb); have HCq := Aside0.mk (Kd.C_below (by repeat (first | exact HC.out | apply Kd.C_alloc | apply Kd.C_drewN | apply Kd.C_drew)) hb); have HLq := Aside0.mk (Kd.R_below (by repeat (first | exact HL.out | apply Kd.R_alloc | apply Kd.R_drewN)) hb); clear HB HC HL hb; have HB := HBq; have HC := HCq; have HL := HLq; clear HBq HCq HLq))
            go_ret
            exact ⟨rfl, HB.out⟩
          · obtain ⟨k, hk, hs0, hs1, hix⟩ := in_body l0 i (by omega)
            have e5 : l0.getD ((k : Int) + 1 - 1).toNat zNode = l0[k] := by rw [show ((k : Int) + 1 - 1).toNat = k by omega, List.getD_eq_getElem?_getD, List.getElem?_eq_getElem hk]; rfl
            have e6 : rd (startsL l0) ((k : Int) + 1) = ((bodyB (l0.take (k + 1))).length : Int) := startsL_rd l0 (k := k + 1) (by omega)
            have hdb := data_block l0 HONE.out hk hs0 hs1
            have hwv : whereT l0 true i = ((k : Int), if -1 < (i : Int) - ((bodyB (l0.take (k + 1))).length : Int) + (manyB l0[k].f7.size : Int) then (i : Int) - ((bodyB (l0.take (k + 1))).length : Int) + (manyB l0[k].f7.size : Int) else -1) := by
              unfold whereT
              rw [if_neg e0, hix, if_neg (by omega), e5, e6]
              congr 1
              omega
            have h4 : decide ((k : Int) < 0) = false := decide_eq_false (by omega)
            have h5 : decide ((l0.length : Int) < (k : Int)) = false := decide_eq_false (by omega)
            have h6 : ((k : Int) == (l0.length : Int)) = false := beq_eq_false_iff_ne.2 (by omega)
            have h7 : IntKind.i64.wrap ((nL : Int) - 2) = (m : Int) := by rw [i64_w, wrap_id (by omega) (by omega)]; omega
            have h8 : decide ((i : Int) < (m : Int)) = true := decide_eq_true (by omega)
            have h8n : decide (i < m) = true := decide_eq_true (by omega)
            have h5n : decide (l0.length < k) = false := decide_eq_false (by omega)
            have h6n : (k == l0.length) = false := beq_eq_false_iff_ne.2 (by omega)
            have h6m : decide (k = l0.length) = false := decide_eq_false (by omega)
            by_cases hj : -1 < (i : Int) - ((bodyB (l0.take (k + 1))).length : Int) + (manyB l0[k].f7.size : Int)
            · rw [if_pos hj] at hwv
              obtain ⟨j, hje⟩ : ∃ j : Nat, (i : Int) - ((bodyB (l0.take (k + 1))).length : Int) + (manyB l0[k].f7.size : Int) = (j : Int) := ⟨((i : Int) - ((bodyB (l0.take (k + 1))).length : Int) + (manyB l0[k].f7.size : Int)).toNat, by omega⟩
              rw [hje] at hwv
              rw [hwv] at hwh
              obtain ⟨hjl, hjv⟩ := hdb j (by omega)
              rw [hL] at hjv
              have hfew7 := (oneB_facts (HONE.out _ (List.getElem_mem hk))).data
              have hcut := fun W => block_Cut.calls l0[k].f7 _ W (cut_f (s := l0[k].f7) (by omega))
              obtain ⟨cu, hcu⟩ : ∃ cu, cutL l0[k].f7 = cu := ⟨_, rfl⟩
              rw [hcu] at hjl hjv hcut
              have h9 : ((j : Int) == -1) = false := beq_eq_false_iff_ne.2 (by omega)
              have h10 : decide ((j : Int) < -1) = false := decide_eq_false (by omega)
              have h11 : decide ((j : Int) < (cu.length : Int)) = true := decide_eq_true (by omega)
              have h11n : decide (j < cu.length) = true := decide_eq_true hjl
              have hk0 : (0 : Int) ≤ (k : Int) := by omega
              have hk1 : (k : Int) < (l0.length : Int) := by omega
              have HJV := Aside0.mk hjv
              have HK := Aside0.mk hk
              have HJL := Aside0.mk hjl
              have HIL := Aside0.mk (show i < L.length by rw [hLl]; omega)
              generalize hx7 : l0[k].f7 = x7 at hcut
              have HX7 := Aside0.mk hx7
              have HLl := Aside0.mk hLl
              clear h1 h2 hmT hLl hmL hL hbf hnL e0 h3 hjl hjv hdb hfew7 hcu hs0 hs1 hix e5 e6 hwv hj hje hx7
              go_enter Try.func10, Try.ntmps10
              go_upto_region 13 with (first | (go_at_call 40; refine (hup _).mono ?_; rintro e wq ⟨rfl, hb⟩; have HBq := Aside0.mk (below_step (by repeat (first | exact HB.out | apply below_alloc | apply pw_below_drewN | apply below_drew1)) hb); have HCq := Aside0.mk (Kd.C_below (by repeat (first | exact HC.out | apply Kd.C_alloc | apply Kd.C_drewN | apply Kd.C_drew)) hb); clear HB HC  hb; have HB := HBq; have HC := HCq; clear HBq HCq ) | (go_at_call 41; refine (hfew _ (by repeat (first | exact HC.out | apply Kd.C_alloc | apply Kd.C_drewN | apply Kd.C_drew))).mono ?_; rintro e wq ⟨rfl, hb⟩; have HBq := Aside0.mk (below_step (by repeat (first | exact HB.out | apply below_alloc | apply pw_below_drewN | apply below_drew1)) hb); have HCq := Aside0.mk (Kd.C_below (by repeat (first | exact HC.out | apply Kd.C_alloc | apply Kd.C_drewN | apply Kd.C_drew)) hb); clear HB HC  hb; have HB := HBq; have HC := HCq; clear HBq HCq ) | (go_at_call 42; refine (hmay _ (by repeat (first | exact HC.out | apply Kd.C_alloc | apply Kd.C_drewN | apply Kd.C_drew))).mono ?_; rintro e wq ⟨rfl, hb⟩; have HBq := Aside0.mk (below_step (by repeat (first | exact HB.out | apply below_alloc | apply pw_below_drewN | apply below_drew1)) hb); have HCq := Aside0.mk (Kd.C_below (by repeat (first | exact HC.out | apply Kd.C_alloc | apply Kd.C_drewN | apply Kd.C_drew)) hb); clear HB HC  hb; have HB := HBq; have HC := HCq; clear HBq HCq ) | (go_at_call 43; refine (hall _ (by repeat (first | exact HC.out | apply Kd.C_alloc | apply Kd.C_drewN | apply Kd.C_drew))).mono ?_; rintro e wq ⟨⟨AL, cL, rfl, HL⟩, hb⟩; have HBq := Aside0.mk (below_step (by repeat (first | exact HB.out | apply below_alloc | apply pw_below_drewN | apply below_drew1)) hb); have HCq := Aside0.mk (Kd.C_below (by repeat (first | exact HC.out | apply Kd.C_alloc | apply Kd.C_drewN | apply Kd.C_drew)) hb); clear HB HC  hb; have HB := HBq; have HC := HCq; clear HBq HCq ) | (go_at_call 44; refine (hwh _ (by repeat (first | exact HC.out | apply Kd.C_alloc | apply Kd.C_drewN | apply Kd.C_drew))).mono ?_; rintro e wq ⟨rfl, hb⟩; have HBq := Aside0.mk (below_step (by repeat (first | exact HB.out | apply below_alloc | apply pw_below_drewN | apply below_drew1)) hb); have HCq := Aside0.mk (Kd.C_below (by repeat (first | exact HC.out | apply Kd.C_alloc | apply Kd.C_drewN | apply Kd.C_drew)) hb); have HLq := Aside0.mk (Kd.R_below (by repeat (first | exact HL.out | apply Kd.R_alloc | apply Kd.R_drewN)) hb); clear HB HC HL hb; have HB := HBq; have HC := HCq; have HL := HLq; clear HBq HCq HLq))
              obtain ⟨ad, rfl, _, _, _, _, _, _, _, k7⟩ := node_cells HC.out HK.out l0[k] (List.getElem?_eq_getElem HK.out)
              rw [HX7.out] at k7
              go_upto_region 14 with (go_at_call 45; refine (hcut _).mono ?_; rintro e wq ⟨vU, rfl, hU, hb⟩; have HBq := Aside0.mk (below_step (by repeat (first | exact HB.out | apply below_alloc | apply pw_below_drewN | apply below_drew1)) hb); have HCq := Aside0.mk (Kd.C_below (by repeat (first | exact HC.out | apply Kd.C_alloc | apply Kd.C_drewN | apply Kd.C_drew)) hb); have HLq := Aside0.mk (Kd.R_below (by repeat (first | exact HL.out | apply Kd.R_alloc | apply Kd.R_drewN)) hb); obtain ⟨AU, cU, rfl⟩ := Kd.R_slice hU; have HU := Aside0.mk hU; clear hU; clear HB HC HL hb; have HB := HBq; have HC := HCq; have HL := HLq; clear HBq HCq HLq)
              obtain ⟨adU, BU, dU, rfl, hxU, _, hcU⟩ := at_row (Kd.R_reads' HU.out).2.2 j HJL.out
              obtain ⟨adL, BL, dL, rfl, hxL, _, hcL⟩ := at_row (Kd.R_reads' HL.out).2.2 i HIL.out
              have hv : rdR cu j = rdR L i := HJV.out.symm
              rw [hv] at hxU hcU
              generalize rdR L i = x at hxU hcU hxL hcL
              have f1 : ((strOfNums x).toList == (strOfNums x).toList) = true := beq_self_eq_true _
              have hi0 : (0 : Int) ≤ (i : Int) := by omega
              have hi1 : (i : Int) < (nL : Int) := by have h_ := HIL.out; have h2_ := HLl.out; omega
              have hj0 : (0 : Int) ≤ (j : Int) := by omega
              have hj1 : (j : Int) < (cu.length : Int) := by have := HJL.out; omega
              go_region_held3 (fun w' => w'.cell? (adU.add j) = some (.slice BU x.length dU) ∧ w'.cell? (adL.add i) = some (.slice BL x.length dL) ∧ (convert 42 9 (.slice BU x.length dU)).run Try.prog w' = .ok (.string (strOfNums x)) w' ∧ (convert 42 9 (.slice BL x.length dL)).run Try.prog w' = .ok (.string (strOfNums x)) w') (exact ⟨hxU, hxL, Kd.C_string (P := Try.prog) (A := BU) (c := dU) Try.underlying42 Try.underlying5 Try.underlying9 (Kd.C_drewN hcU 1), Kd.C_string (P := Try.prog) (A := BL) (c := dL) Try.underlying42 Try.underlying5 Try.underlying9 (Kd.C_drewN hcL 1)⟩) (fail)
              go_wp2_with (fail)
              go_ret
              exact ⟨rfl, by repeat (first | exact HB.out | apply pw_below_drewN | apply below_drew1)⟩
            · rw [if_neg hj] at hwv
              rw [hwv] at hwh
              clear h1 h2 hmT hLl hmL hL hbf hnL e0 h3 hdb hs0 hs1 hix e5 e6 hwv hj
              go_enter Try.func10, Try.ntmps10
              go_wp2_with (first | (go_at_call 40; refine (hup _).mono ?_; rintro e wq ⟨rfl, hb⟩; have HBq := Aside0.mk (below_step (by repeat (first | exact HB.out | apply below_alloc | apply pw_below_drewN | apply below_drew1)) hb); have HCq := Aside0.mk (Kd.C_below (by repeat (first | exact HC.out | apply Kd.C_alloc | apply Kd.C_drewN | apply Kd.C_drew)) hb); clear HB HC  hb; have HB := HBq; have HC := HCq; clear HBq HCq ) | (go_at_call 41; refine (hfew _ (by repeat (first | exact HC.out | apply Kd.C_alloc | apply Kd.C_drewN | apply Kd.C_drew))).mono ?_; rintro e wq ⟨rfl, hb⟩; have HBq := Aside0.mk (below_step (by repeat (first | exact HB.out | apply below_alloc | apply pw_below_drewN | apply below_drew1)) hb); have HCq := Aside0.mk (Kd.C_below (by repeat (first | exact HC.out | apply Kd.C_alloc | apply Kd.C_drewN | apply Kd.C_drew)) hb); clear HB HC  hb; have HB := HBq; have HC := HCq; clear HBq HCq ) | (go_at_call 42; refine (hmay _ (by repeat (first | exact HC.out | apply Kd.C_alloc | apply Kd.C_drewN | apply Kd.C_drew))).mono ?_; rintro e wq ⟨rfl, hb⟩; have HBq := Aside0.mk (below_step (by repeat (first | exact HB.out | apply below_alloc | apply pw_below_drewN | apply below_drew1)) hb); have HCq := Aside0.mk (Kd.C_below (by repeat (first | exact HC.out | apply Kd.C_alloc | apply Kd.C_drewN | apply Kd.C_drew)) hb); clear HB HC  hb; have HB := HBq; have HC := HCq; clear HBq HCq ) | (go_at_call 43; refine (hall _ (by repeat (first | exact HC.out | apply Kd.C_alloc | apply Kd.C_drewN | apply Kd.C_drew))).mono ?_; rintro e wq ⟨⟨AL, cL, rfl, HL⟩, hb⟩; have HBq := Aside0.mk (below_step (by repeat (first | exact HB.out | apply below_alloc | apply pw_below_drewN | apply below_drew1)) hb); have HCq := Aside0.mk (Kd.C_below (by repeat (first | exact HC.out | apply Kd.C_alloc | apply Kd.C_drewN | apply Kd.C_drew)) hb); clear HB HC  hb; have HB := HBq; have HC := HCq; clear HBq HCq ) | (go_at_call 44; refine (hwh _ (by repeat (first | exact HC.out | apply Kd.C_alloc | apply Kd.C_drewN | apply Kd.C_drew))).mono ?_; rintro e wq ⟨rfl, hb⟩; have HBq := Aside0.mk (below_step (by repeat (first | exact HB.out | apply below_alloc | apply pw_below_drewN | apply below_drew1)) hb); have HCq := Aside0.mk (Kd.C_below (by repeat (first | exact HC.out | apply Kd.C_alloc | apply Kd.C_drewN | apply Kd.C_drew)) hb); have HLq := Aside0.mk (Kd.R_below (by repeat (first | exact HL.out | apply Kd.R_alloc | apply Kd.R_drewN)) hb); clear HB HC HL hb; have HB := HBq; have HC := HCq; have HL := HLq; clear HBq HCq HLq))
              go_ret
              exact ⟨rfl, HB.out⟩

end Go.Proofs.Ytlecnodlnkanaaa.X
