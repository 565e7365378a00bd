import Derived.Test.YtlecnodlnkanaaaXK
import Derived.Test.YtlecnodlnkanaaaXGentry
import Derived.Test.YtlecnodlnkanaaaXGget
import Derived.Test.YtlecnodlnkanaaaXGlaw08
import Derived.Test.YtlecnodlnkanaaaXGreelkeeperref03
import Derived.Test.YtlecnodlnkanaaaXGslices
import Derived.Test.YtlecnodlnkanaaaXGstream
import Derived.Test.YtlecnodlnkanaaaXGtext
import Derived.Test.YtlecnodlnkanaaaXGtree
import Derived.Test.YtlecnodlnkanaaaXreelkeeperlaw06Few
import Derived.Test.YtlecnodlnkanaaaP06d
import Derived.Test.YtlecnodlnkanaaaP08a
import Derived.Deep.RegionHeld3
import Derived.Laws.EntriesVeiled
import Derived.WalkSpells
namespace Go.Proofs.Ytlecnodlnkanaaa.X
open Go.RowKit Go.Proofs.YtlecnodlnkanaaaW.PrintWords Go.Proofs.YtlecnodlnkanaaaW.PrintLast Go.Proofs.YtlecnodlnkanaaaW.PrintMore
attribute [local go_sem] max2_int min2_int max_two min_two
set_option linter.unusedVariables false
set_option linter.unusedSimpArgs false

open Go.Proofs.YtlecnodlnkanaaaY
def reelkeeperlaw08_StreamParts.f (k : Nat) (l0 : List Nd) (a1 : Int) : Option Bool := some true
theorem StreamParts_told (l : List Nd) (a : Int) : ∃ k, reelkeeperlaw08_StreamParts.f k l a = some true := ⟨0, rfl⟩
theorem take_mid {α : Type} (a p r : List α) : ((a ++ (p ++ r)).take (a.length + p.length)).drop a.length = p := by
  rw [← List.append_assoc, ← List.length_append, List.take_left', List.drop_left']
  · rfl
  · rfl
theorem nodes_take {w : World} {A : Option Addr} {l : List Nd} (c : Nat) (h : Kd.C kNode w A l.length l) (hc : l.length ≤ c) (m : Nat) (hm : m ≤ l.length) :
    (∀ W, (Instr.slice 48 (.slice A l.length c) none (some (.int .i64 (m : Int))) none).run Try.prog W = .ok (.slice A (l.take m).length c) W) ∧ (l.take m).length ≤ c := by
  obtain ⟨i0, hi0, _, hsz, _⟩ := info_parts info23
  have hlm : l.length ≤ 9223372036854775807 := h.2.1
  have hcut := cut_to (P := Try.prog) 48 23 .i64 Try.underlying48 hi0 A l.length c (m : Int) (by omega) (by omega) hc
  simp only [Int.toNat_natCast] at hcut
  have hl : (l.take m).length = m := by rw [List.length_take]; omega
  refine ⟨?_, ?_⟩
  · rw [hl]; exact hcut
  · rw [hl]; omega
theorem same_rows {A A' : Option Addr} {c c' : Nat} {X : List (List Int)} {W : World} (h : Kd.C kRow W A X.length X) (hc : X.length ≤ c) (h' : Kd.C kRow W A' X.length X) (hc' : X.length ≤ c') (n : Nat) :
    Calls Try.prog 27 #[.slice A X.length c, .slice A' X.length c'] (W.drewN n) fun e w' => e = .returned (.bool true) ∧ ∃ m, w' = W.drewN m :=
  Calls.quiet_of ((reelkeeperref03_Same.calls A c X A' c' X true (W.drewN n) (Kd.C_drewN h n) hc (Kd.C_drewN h' n) hc' (congrArg some (sameF_self X))).mono fun _ _ ⟨he, ⟨hd⟩⟩ => ⟨he, hd⟩)
theorem same_rows2 {A A' : Option Addr} {c c' : Nat} {X : List (List Int)} {W : World} (h : Kd.C kRow W A X.length X) (hc : X.length ≤ c) (h' : Kd.C kRow W A' X.length X) (hc' : X.length ≤ c') (b n : Nat) :
    Calls Try.prog 27 #[.slice A X.length c, .slice A' X.length c'] (W.drewN (b + n)) fun e w' => e = .returned (.bool true) ∧ ∃ m, w' = W.drewN (b + m) := by
  have h1 := same_rows (Kd.C_drewN h b) hc (Kd.C_drewN h' b) hc' n
  simpa only [World.drewN_drewN] using h1
set_option maxHeartbeats 3200000 in
set_option maxRecDepth 100000 in
theorem reelkeeperlaw08_StreamParts.calls (k : Nat) (A0 : Option Addr) (c0 : Nat) (l0 : List Nd) (a1 : Int) (r : Bool) (w : World) (hr0 : Kd.C kNode w A0 l0.length l0) (hc0 : l0.length ≤ c0) (h : reelkeeperlaw08_StreamParts.f k l0 a1 = some r) :
    Calls Try.prog 13 #[.slice A0 l0.length c0, .int .i64 a1] w fun e w' => e = .returned (.bool r) ∧ Below w.heap.size w w' := by
  obtain rfl : true = r := Option.some.inj h
  clear h k
  have hup := fun W => awake8.at_ W
  obtain ⟨kf, hkf⟩ := Ev.rounds (few_ev l0)
  have hfew := fun W hC => reelkeeperlaw06_Few.calls kf A0 c0 l0 _ W hC hc0 hkf
  have HB := Aside0.mk (Below.refl w.heap.size w)
  have HC := Aside0.mk hr0
  have hlm : l0.length ≤ 9223372036854775807 := hr0.2.1
  clear hkf hr0
  cases hf : fewL l0 with
  | false =>
    rw [hf] at hfew
    clear hf
    go_enter Try.func13, Try.ntmps13
    go_wp2_with (first | (go_at_call 40; refine (hup _).mono ?_; rintro e wq ⟨rfl, hb⟩; have HBq := Aside0.mk (below_step (by repeat (first | exact HB.out | apply below_alloc | apply pw_below_drewN | apply below_drew1)) hb); have HCq := Aside0.mk (Kd.C_below (by repeat (first | exact HC.out | apply Kd.C_alloc | apply Kd.C_drewN | apply Kd.C_drew)) hb); clear HB HC  hb; have HB := HBq; have HC := HCq; clear HBq HCq ) | (go_at_call 41; refine (hfew _ (by repeat (first | exact HC.out | apply Kd.C_alloc | apply Kd.C_drewN | apply Kd.C_drew))).mono ?_; rintro e wq ⟨rfl, hb⟩; have HBq := Aside0.mk (below_step (by repeat (first | exact HB.out | apply below_alloc | apply pw_below_drewN | apply below_drew1)) hb); have HCq := Aside0.mk (Kd.C_below (by repeat (first | exact HC.out | apply Kd.C_alloc | apply Kd.C_drewN | apply Kd.C_drew)) hb); clear HB HC  hb; have HB := HBq; have HC := HCq; clear HBq HCq ))
    go_ret
    exact ⟨rfl, HB.out⟩
  | true =>
    rw [hf] at hfew
    obtain ⟨hl, hok⟩ := fewL_iff.1 hf
    obtain ⟨km, hkm⟩ := Ev.rounds (may_ev hok)
    have hmay := fun W hC => tree_May.calls km A0 c0 l0 _ W hC hc0 hkm
    clear hf
    cases hm : mayF l0 with
    | false =>
      rw [hm] at hmay
      clear hm hkm
      go_enter Try.func13, Try.ntmps13
      go_wp2_with (first | (go_at_call 40; refine (hup _).mono ?_; rintro e wq ⟨rfl, hb⟩; have HBq := Aside0.mk (below_step (by repeat (first | exact HB.out | apply below_alloc | apply pw_below_drewN | apply below_drew1)) hb); have HCq := Aside0.mk (Kd.C_below (by repeat (first | exact HC.out | apply Kd.C_alloc | apply Kd.C_drewN | apply Kd.C_drew)) hb); clear HB HC  hb; have HB := HBq; have HC := HCq; clear HBq HCq ) | (go_at_call 41; refine (hfew _ (by repeat (first | exact HC.out | apply Kd.C_alloc | apply Kd.C_drewN | apply Kd.C_drew))).mono ?_; rintro e wq ⟨rfl, hb⟩; have HBq := Aside0.mk (below_step (by repeat (first | exact HB.out | apply below_alloc | apply pw_below_drewN | apply below_drew1)) hb); have HCq := Aside0.mk (Kd.C_below (by repeat (first | exact HC.out | apply Kd.C_alloc | apply Kd.C_drewN | apply Kd.C_drew)) hb); clear HB HC  hb; have HB := HBq; have HC := HCq; clear HBq HCq ) | (go_at_call 42; refine (hmay _ (by repeat (first | exact HC.out | apply Kd.C_alloc | apply Kd.C_drewN | apply Kd.C_drew))).mono ?_; rintro e wq ⟨rfl, hb⟩; have HBq := Aside0.mk (below_step (by repeat (first | exact HB.out | apply below_alloc | apply pw_below_drewN | apply below_drew1)) hb); have HCq := Aside0.mk (Kd.C_below (by repeat (first | exact HC.out | apply Kd.C_alloc | apply Kd.C_drewN | apply Kd.C_drew)) hb); clear HB HC  hb; have HB := HBq; have HC := HCq; clear HBq HCq ))
      go_ret
      exact ⟨rfl, HB.out⟩
    | true =>
      rw [hm] at hmay hkm
      obtain ⟨h20, hone⟩ := mayF_facts hok hm
      have hfacts : true = true → l0.length ≤ 20 ∧ ∀ x ∈ l0, oneB x = true := fun _ => ⟨h20, hone⟩
      have HONE := Aside0.mk hone
      have hm0 := hm
      clear hm
      by_cases h1 : a1 < 0
      · have h1d := decide_eq_true h1
        clear hfacts hkm hone h1
        go_enter Try.func13, Try.ntmps13
        go_wp2_with (first | (go_at_call 40; refine (hup _).mono ?_; rintro e wq ⟨rfl, hb⟩; have HBq := Aside0.mk (below_step (by repeat (first | exact HB.out | apply below_alloc | apply pw_below_drewN | apply below_drew1)) hb); have HCq := Aside0.mk (Kd.C_below (by repeat (first | exact HC.out | apply Kd.C_alloc | apply Kd.C_drewN | apply Kd.C_drew)) hb); clear HB HC  hb; have HB := HBq; have HC := HCq; clear HBq HCq ) | (go_at_call 41; refine (hfew _ (by repeat (first | exact HC.out | apply Kd.C_alloc | apply Kd.C_drewN | apply Kd.C_drew))).mono ?_; rintro e wq ⟨rfl, hb⟩; have HBq := Aside0.mk (below_step (by repeat (first | exact HB.out | apply below_alloc | apply pw_below_drewN | apply below_drew1)) hb); have HCq := Aside0.mk (Kd.C_below (by repeat (first | exact HC.out | apply Kd.C_alloc | apply Kd.C_drewN | apply Kd.C_drew)) hb); clear HB HC  hb; have HB := HBq; have HC := HCq; clear HBq HCq ) | (go_at_call 42; refine (hmay _ (by repeat (first | exact HC.out | apply Kd.C_alloc | apply Kd.C_drewN | apply Kd.C_drew))).mono ?_; rintro e wq ⟨rfl, hb⟩; have HBq := Aside0.mk (below_step (by repeat (first | exact HB.out | apply below_alloc | apply pw_below_drewN | apply below_drew1)) hb); have HCq := Aside0.mk (Kd.C_below (by repeat (first | exact HC.out | apply Kd.C_alloc | apply Kd.C_drewN | apply Kd.C_drew)) hb); clear HB HC  hb; have HB := HBq; have HC := HCq; clear HBq HCq ))
        go_ret
        exact ⟨rfl, HB.out⟩
      by_cases h2 : (l0.length : Int) ≤ a1
      · have h1d := decide_eq_false h1
        have h2d := decide_eq_true h2
        clear hfacts hkm hone h1 h2
        go_enter Try.func13, Try.ntmps13
        go_wp2_with (first | (go_at_call 40; refine (hup _).mono ?_; rintro e wq ⟨rfl, hb⟩; have HBq := Aside0.mk (below_step (by repeat (first | exact HB.out | apply below_alloc | apply pw_below_drewN | apply below_drew1)) hb); have HCq := Aside0.mk (Kd.C_below (by repeat (first | exact HC.out | apply Kd.C_alloc | apply Kd.C_drewN | apply Kd.C_drew)) hb); clear HB HC  hb; have HB := HBq; have HC := HCq; clear HBq HCq ) | (go_at_call 41; refine (hfew _ (by repeat (first | exact HC.out | apply Kd.C_alloc | apply Kd.C_drewN | apply Kd.C_drew))).mono ?_; rintro e wq ⟨rfl, hb⟩; have HBq := Aside0.mk (below_step (by repeat (first | exact HB.out | apply below_alloc | apply pw_below_drewN | apply below_drew1)) hb); have HCq := Aside0.mk (Kd.C_below (by repeat (first | exact HC.out | apply Kd.C_alloc | apply Kd.C_drewN | apply Kd.C_drew)) hb); clear HB HC  hb; have HB := HBq; have HC := HCq; clear HBq HCq ) | (go_at_call 42; refine (hmay _ (by repeat (first | exact HC.out | apply Kd.C_alloc | apply Kd.C_drewN | apply Kd.C_drew))).mono ?_; rintro e wq ⟨rfl, hb⟩; have HBq := Aside0.mk (below_step (by repeat (first | exact HB.out | apply below_alloc | apply pw_below_drewN | apply below_drew1)) hb); have HCq := Aside0.mk (Kd.C_below (by repeat (first | exact HC.out | apply Kd.C_alloc | apply Kd.C_drewN | apply Kd.C_drew)) hb); clear HB HC  hb; have HB := HBq; have HC := HCq; clear HBq HCq ))
        go_ret
        exact ⟨rfl, HB.out⟩
      obtain ⟨k, rfl⟩ : ∃ k : Nat, a1 = (k : Int) := ⟨a1.toNat, by omega⟩
      have hk : k < l0.length := by omega
      have hkle : k ≤ l0.length := by omega
      have hT : mayT [] ⟨#[]⟩ l0 = true := by
        unfold mayF at hm0
        rw [Bool.and_eq_true] at hm0
        exact hm0.2
      have hmk : mayF (l0.take k) = true := by
        unfold mayF
        rw [mayT_take hT, decide_eq_true (by rw [List.length_take]; omega)]
        rfl
      obtain ⟨kk, hkk⟩ := Ev.rounds (may_ev (l := l0.take k) (fun n hn => hok n (List.mem_of_mem_take hn)))
      rw [hmk] at hkk
      obtain ⟨L, hL⟩ : ∃ L, bodyB l0 ++ zeroB = L := ⟨_, rfl⟩
      obtain ⟨Q, hQ⟩ : ∃ Q, bodyB (l0.take k) ++ zeroB = Q := ⟨_, rfl⟩
      obtain ⟨sk, hsk⟩ : ∃ s, (bodyB (l0.take k)).length = s := ⟨_, rfl⟩
      obtain ⟨sl, hsl⟩ : ∃ s, (bodyB (l0.take (k + 1))).length = s := ⟨_, rfl⟩
      obtain ⟨m, hmL⟩ : ∃ m, (bodyB l0).length = m := ⟨_, rfl⟩
      obtain ⟨nL, hnL⟩ : ∃ nL, L.length = nL := ⟨_, rfl⟩
      obtain ⟨nQ, hnQ⟩ : ∃ nQ, Q.length = nQ := ⟨_, rfl⟩
      obtain ⟨nS, hnS⟩ : ∃ nS, (startsL l0).length = nS := ⟨_, rfl⟩
      have hLl : nL = m + 2 := by rw [← hnL, ← hL, List.length_append, hmL]; rfl
      have hQl : nQ = sk + 2 := by rw [← hnQ, ← hQ, List.length_append, hsk]; rfl
      have hSl : nS = l0.length + 1 := by rw [← hnS, startsL_length]
      have hbf := bodyB_few l0 (fun n hn => oneB_facts (hone n hn))
      have hst := starts_step l0 hk
      have hle := bodyB_take_le l0 (k + 1)
      have htk : (l0.take k).length = k := by rw [List.length_take]; omega
      have hall : ∀ W, Kd.C kNode W A0 l0.length l0 → Calls Try.prog 43 #[.slice A0 l0.length c0] W fun e w' => ∃ A c, e = .returned (.tuple #[.slice A nL c, .bool true]) ∧ Aside0 (Kd.C kRow w' A L.length L) ∧ Aside0 (L.length ≤ c) ∧ Below W.heap.size W w' := fun W hC => by
        have h := stream_All.at_ l0 km true hkm hfacts A0 c0 W hC hc0
        rw [if_pos rfl, hL] at h
        rw [← hnL]
        exact rows_flag h
      have hallk : ∀ W, Kd.C kNode W A0 (l0.take k).length (l0.take k) → Calls Try.prog 43 #[.slice A0 k c0] W fun e w' => ∃ A c, e = .returned (.tuple #[.slice A nQ c, .bool true]) ∧ Aside0 (Kd.C kRow w' A Q.length Q) ∧ Aside0 (Q.length ≤ c) ∧ Below W.heap.size W w' := fun W hC => by
        have h := stream_All.at_ (l0.take k) kk true hkk (fun _ => ⟨by omega, fun x hx => hone x (List.mem_of_mem_take hx)⟩) A0 c0 W hC (by omega)
        rw [if_pos rfl, hQ, htk] at h
        rw [← hnQ]
        exact rows_flag h
      have hsta : ∀ W, Kd.C kNode W A0 l0.length l0 → Calls Try.prog 46 #[.slice A0 l0.length c0] W fun e w' => ∃ A c, e = .returned (.slice A nS c) ∧ Aside0 (Kd.C (Kd.int .i64) w' A (startsL l0).length (startsL l0)) ∧ Below W.heap.size W w' := fun W hC => (stream_Starts.at_ l0 km true hkm hfacts A0 c0 W hC hc0).mono (by
        rintro e w' ⟨v, rfl, hR, hB⟩
        rw [if_pos rfl] at hR
        obtain ⟨A, c, rfl, hc, hC⟩ := Kd.R_reads hR
        exact ⟨A, c, by rw [hnS], ⟨hC⟩, hB⟩)
      have hp := entryPut_yes (hone _ (List.getElem_mem hk))
      obtain ⟨P, hP⟩ : ∃ P, entryB l0[k] = P := ⟨_, rfl⟩
      obtain ⟨nP, hnP⟩ : ∃ nP, P.length = nP := ⟨_, rfl⟩
      rw [hP] at hp hst
      rw [hnP, hsk, hsl] at hst
      rw [hsl] at hle
      have hmid : (L.take sl).drop sk = P := by
        rw [← hL, bodyB_split l0 hk, hP, List.append_assoc, List.append_assoc, show sl = (bodyB (l0.take k)).length + P.length by omega, ← hsk]
        exact take_mid _ _ _
      have hqt : Q.take sk = bodyB (l0.take k) := by rw [← hQ, List.take_append_of_le_length (by omega), List.take_of_length_le (by omega)]
      have hlt : L.take sk = bodyB (l0.take k) := by rw [← hL, bodyB_split l0 hk, List.append_assoc, List.take_append_of_le_length (by omega), List.take_of_length_le (by omega)]
      obtain ⟨K, hK⟩ : ∃ K, bodyB (l0.take k) = K := ⟨_, rfl⟩
      rw [hK] at hqt hlt
      have hz1 : rdR L (nL - 1) = List.replicate 512 0 := by
        unfold rdR
        rw [← hL, List.getD_eq_getElem?_getD, List.getElem?_append_right (by omega), show nL - 1 - (bodyB l0).length = 1 by omega]
        rfl
      have hz2 : rdR L (nL - 2) = List.replicate 512 0 := by
        unfold rdR
        rw [← hL, List.getD_eq_getElem?_getD, List.getElem?_append_right (by omega), show nL - 2 - (bodyB l0).length = 0 by omega]
        rfl
      have hr0 : rd (startsL l0) (k : Int) = (sk : Int) := by rw [startsL_rd l0 hkle, hsk]
      have hr1 : rd (startsL l0) ((k : Int) + 1) = (sl : Int) := by rw [← hsl]; exact startsL_rd l0 (k := k + 1) (by omega)
      have hr2 : rd (startsL l0) (l0.length : Int) = (m : Int) := by rw [startsL_rd l0 (Nat.le_refl _), List.take_length, hmL]
      obtain ⟨hcut, hcutc⟩ := nodes_take c0 HC.out hc0 k hkle
      rw [htk] at hcut
      obtain ⟨ad, rfl, k0, k1, k2, k3, k4, k5, k6, k7⟩ := node_cells HC.out hk l0[k] (List.getElem?_eq_getElem hk)
      have HN := Aside0.mk (List.getElem?_eq_getElem hk)
      generalize l0[k] = x at *
      obtain ⟨f0, f1, f2, f3, f4, f5, f6, f7⟩ := x
      simp only at k0 k1 k2 k3 k4 k5 k6 k7 hp
      clear k0 k1 k2 k3 k4 k5 k6 k7
      have hput : ∀ W, Calls Try.prog 25 #[.agg #[.string f0, .string f1, .int .u8 f2, .int .i64 f3, .int .i64 f4, .int .i64 f5, .int .i64 f6, .string f7]] W fun e w' => ∃ A c, e = .returned (.tuple #[.slice A nP c, .bool true]) ∧ Aside0 (Kd.C kRow w' A P.length P) ∧ Aside0 (P.length ≤ c) ∧ Below W.heap.size W w' := fun W => by
        rw [← hnP]
        exact rows_flag (entry_Put.calls f0 f1 f2 f3 f4 f5 f6 f7 P true W hp)
      have hkl0 : (0 : Int) ≤ (k : Int) := by omega
      have hkl1 : (k : Int) < (l0.length : Int) := by omega
      have h1d : decide ((k : Int) < 0) = false := decide_eq_false (by omega)
      have h2d : decide ((l0.length : Int) ≤ (k : Int)) = false := decide_eq_false (by omega)
      have h2n : decide (l0.length ≤ k) = false := decide_eq_false (by omega)
      have HQL := Aside0.mk hQl
      have HLL := Aside0.mk hLl
      have HSL := Aside0.mk hSl
      have HST := Aside0.mk hst
      have HLE := Aside0.mk (show sl ≤ m by omega)
      have HMF := Aside0.mk (show m ≤ 260 by omega)
      have HR := Aside0.mk (And.intro hr0 (And.intro hr1 hr2))
      have HMID := Aside0.mk hmid
      have HQT := Aside0.mk hqt
      have HLT := Aside0.mk hlt
      have HZ := Aside0.mk (And.intro hz1 hz2)
      have HNL := Aside0.mk hnL
      have HNQ := Aside0.mk hnQ
      have HNP := Aside0.mk hnP
      have HKK := Aside0.mk (show K.length = sk by rw [← hK]; exact hsk)
      clear hfacts hkm hone hm0 h1 h2 hL hQ hsk hsl hmL hnL hnQ hnS hLl hQl hSl hbf hst hle htk hp hP hnP hmid hqt hlt hK hz1 hz2 hr0 hr1 hr2 hkk hmk hT hok
      go_enter Try.func13, Try.ntmps13
      go_upto_region 7 with (first | (go_at_call 40; refine (hup _).mono ?_; rintro e wq ⟨rfl, hb⟩; have HBq := Aside0.mk (below_step (by repeat (first | exact HB.out | apply below_alloc | apply pw_below_drewN | apply below_drew1)) hb); have HCq := Aside0.mk (Kd.C_below (by repeat (first | exact HC.out | apply Kd.C_alloc | apply Kd.C_drewN | apply Kd.C_drew)) hb); clear HB HC  hb; have HB := HBq; have HC := HCq; clear HBq HCq ) | (go_at_call 41; refine (hfew _ (by repeat (first | exact HC.out | apply Kd.C_alloc | apply Kd.C_drewN | apply Kd.C_drew))).mono ?_; rintro e wq ⟨rfl, hb⟩; have HBq := Aside0.mk (below_step (by repeat (first | exact HB.out | apply below_alloc | apply pw_below_drewN | apply below_drew1)) hb); have HCq := Aside0.mk (Kd.C_below (by repeat (first | exact HC.out | apply Kd.C_alloc | apply Kd.C_drewN | apply Kd.C_drew)) hb); clear HB HC  hb; have HB := HBq; have HC := HCq; clear HBq HCq ) | (go_at_call 42; refine (hmay _ (by repeat (first | exact HC.out | apply Kd.C_alloc | apply Kd.C_drewN | apply Kd.C_drew))).mono ?_; rintro e wq ⟨rfl, hb⟩; have HBq := Aside0.mk (below_step (by repeat (first | exact HB.out | apply below_alloc | apply pw_below_drewN | apply below_drew1)) hb); have HCq := Aside0.mk (Kd.C_below (by repeat (first | exact HC.out | apply Kd.C_alloc | apply Kd.C_drewN | apply Kd.C_drew)) hb); clear HB HC  hb; have HB := HBq; have HC := HCq; clear HBq HCq ) | (go_at_call 43; refine (hall _ (by repeat (first | exact HC.out | apply Kd.C_alloc | apply Kd.C_drewN | apply Kd.C_drew))).mono ?_; rintro e wq ⟨AL, cL, rfl, HL, HLc, hb⟩; have HBq := Aside0.mk (below_step (by repeat (first | exact HB.out | apply below_alloc | apply pw_below_drewN | apply below_drew1)) hb); have HCq := Aside0.mk (Kd.C_below (by repeat (first | exact HC.out | apply Kd.C_alloc | apply Kd.C_drewN | apply Kd.C_drew)) hb); clear HB HC hb; have HB := HBq; have HC := HCq; clear HBq HCq) | (go_at_call 46; refine (hsta _ (by repeat (first | exact HC.out | apply Kd.C_alloc | apply Kd.C_drewN | apply Kd.C_drew))).mono ?_; rintro e wq ⟨AS, cS, rfl, HS, hb⟩; have HBq := Aside0.mk (below_step (by repeat (first | exact HB.out | apply below_alloc | apply pw_below_drewN | apply below_drew1)) hb); have HCq := Aside0.mk (Kd.C_below (by repeat (first | exact HC.out | apply Kd.C_alloc | apply Kd.C_drewN | apply Kd.C_drew)) hb); have HLq := Aside0.mk (Kd.C_below (by repeat (first | exact HL.out | apply Kd.C_alloc | apply Kd.C_drewN | apply Kd.C_drew)) hb); clear HB HC HL hb; have HB := HBq; have HC := HCq; have HL := HLq; clear HBq HCq HLq))
      obtain ⟨ad', e', k0, k1, k2, k3, k4, k5, k6, k7⟩ := node_cells HC.out hk _ HN.out
      injection e' with e'
      subst e'
      simp only at k0 k1 k2 k3 k4 k5 k6 k7
      go_upto_region 8 with (first | (go_at_call 25; refine (hput _).mono ?_; rintro e wq ⟨AP, cP, rfl, HP, HPc, hb⟩; have HBq := Aside0.mk (below_step (by repeat (first | exact HB.out | apply below_alloc | apply pw_below_drewN | apply below_drew1)) hb); have HCq := Aside0.mk (Kd.C_below (by repeat (first | exact HC.out | apply Kd.C_alloc | apply Kd.C_drewN | apply Kd.C_drew)) hb); have HLq := Aside0.mk (Kd.C_below (by repeat (first | exact HL.out | apply Kd.C_alloc | apply Kd.C_drewN | apply Kd.C_drew)) hb); have HSq := Aside0.mk (Kd.C_below (by repeat (first | exact HS.out | apply Kd.C_alloc | apply Kd.C_drewN | apply Kd.C_drew)) hb); clear HB HC HL HS hb; have HB := HBq; have HC := HCq; have HL := HLq; have HS := HSq; clear HBq HCq HLq HSq))
      clear k0 k1 k2 k3 k4 k5 k6 k7
      go_upto_region 9 with (first | (go_at_call 43; refine (hallk _ (Kd.C_take (by repeat (first | exact HC.out | apply Kd.C_alloc | apply Kd.C_drewN | apply Kd.C_drew)) hkle)).mono ?_; rintro e wq ⟨AQ, cQ, rfl, HQ, HQc, hb⟩; have HBq := Aside0.mk (below_step (by repeat (first | exact HB.out | apply below_alloc | apply pw_below_drewN | apply below_drew1)) hb); have HCq := Aside0.mk (Kd.C_below (by repeat (first | exact HC.out | apply Kd.C_alloc | apply Kd.C_drewN | apply Kd.C_drew)) hb); have HLq := Aside0.mk (Kd.C_below (by repeat (first | exact HL.out | apply Kd.C_alloc | apply Kd.C_drewN | apply Kd.C_drew)) hb); have HSq := Aside0.mk (Kd.C_below (by repeat (first | exact HS.out | apply Kd.C_alloc | apply Kd.C_drewN | apply Kd.C_drew)) hb); have HPq := Aside0.mk (Kd.C_below (by repeat (first | exact HP.out | apply Kd.C_alloc | apply Kd.C_drewN | apply Kd.C_drew)) hb); clear HB HC HL HS HP hb; have HB := HBq; have HC := HCq; have HL := HLq; have HS := HSq; have HP := HPq; clear HBq HCq HLq HSq HPq))
      obtain ⟨hr0, hr1, hr2⟩ := HR.out
      have hSL := HSL.out
      have hHN := HLL.out
      obtain ⟨adS, rfl, hel0⟩ := Kd.at_int HS.out (k : Int) (by omega) (by rw [startsL_length]; omega)
      obtain ⟨adS', e', hel1⟩ := Kd.at_int HS.out ((k : Int) + 1) (by omega) (by rw [startsL_length]; omega)
      injection e' with e'
      subst e'
      obtain ⟨adS', e', hel2⟩ := Kd.at_int HS.out (l0.length : Int) (by omega) (by rw [startsL_length]; omega)
      injection e' with e'
      subst e'
      rw [hr0, Int.toNat_natCast] at hel0
      rw [hr1, show ((k : Int) + 1).toNat = k + 1 by omega] at hel1
      rw [hr2, Int.toNat_natCast] at hel2
      replace hel1 : wq.cell? ⟨adS.block, adS.off + (k + 1), none⟩ = some (.int .i64 (sl : Int)) := hel1
      have hST := HST.out
      have hLE := HLE.out
      have hMF := HMF.out
      have hQL := HQL.out
      have hkS0 : (k : Int) < (nS : Int) := by omega
      have hkS1 : (k : Int) + 1 < (nS : Int) := by omega
      have hkS2 : (l0.length : Int) < (nS : Int) := by omega
      have hkp : (0 : Int) ≤ (k : Int) + 1 := by omega
      have g1 : IntKind.i64.wrap ((l0.length : Int) + 1) = (nS : Int) := by rw [i64_w, wrap_id (by omega) (by omega)]; omega
      have g2 : IntKind.i64.wrap ((k : Int) + 1) = (k : Int) + 1 := by rw [i64_w]; exact wrap_id (by omega) (by omega)
      have g3 : IntKind.i64.wrap ((nL : Int) - 2) = (m : Int) := by rw [i64_w, wrap_id (by omega) (by omega)]; omega
      have g4 : IntKind.i64.wrap ((sk : Int) + 2) = (nQ : Int) := by rw [i64_w, wrap_id (by omega) (by omega)]; omega
      have g5 : IntKind.i64.wrap ((nL : Int) - 1) = ((nL - 1 : Nat) : Int) := by rw [i64_w, wrap_id (by omega) (by omega)]; omega
      have d1 : decide ((sk : Int) < 0) = false := decide_eq_false (by omega)
      have d2 : decide ((sl : Int) < (sk : Int)) = false := decide_eq_false (by omega)
      have d2n : decide (sl < sk) = false := decide_eq_false (by omega)
      have d3 : decide ((nL : Int) < (sl : Int)) = false := decide_eq_false (by omega)
      have d3n : decide (nL < sl) = false := decide_eq_false (by omega)
      have hskn : (sk : Int) ≤ (sl : Int) := by omega
      have hsk0 : (0 : Int) ≤ (sk : Int) := by omega
      have hsll : (sl : Int) ≤ (nL : Int) := by omega
      obtain ⟨AM, cM, hcutM, hCM, hcM⟩ := rows_mid cL HL.out HLc.out sk sl (by omega) (by rw [HNL.out]; omega)
      obtain ⟨hcutQ, hCQ, hcQ⟩ := rows_take cQ HQ.out HQc.out sk (by rw [HNQ.out]; omega)
      obtain ⟨hcutL, hCL, hcL⟩ := rows_take cL HL.out HLc.out sk (by rw [HNL.out]; omega)
      rw [HMID.out] at hcutM hCM hcM
      rw [HQT.out] at hcutQ hCQ hcQ
      rw [HLT.out] at hcutL hCL hcL
      have hs1 := fun b a => same_rows2 hCM hcM HP.out HPc.out b a
      have hs2 := fun b a => same_rows2 hCQ hcQ hCL hcL b a
      obtain ⟨hz1, hz2⟩ := HZ.out
      have hnL := HNL.out
      obtain ⟨adL, B1, e1, rfl, hx1, hi1, hc1⟩ := at_row HL.out (nL - 1) (by omega)
      obtain ⟨adL', B2, e2, e', hx2, hi2, hc2⟩ := at_row HL.out (nL - 2) (by omega)
      injection e' with e'
      subst e'
      rw [hz1] at hx1 hi1 hc1
      rw [hz2] at hx2 hi2 hc2
      generalize hzz : List.replicate 512 (0 : Int) = zb at hx1 hi1 hc1 hx2 hi2 hc2
      have hzf : block_Zero.f zb = some true := by
        have h_ : zb.all (fun c => c == 0) = true := by
          rw [← hzz, List.all_eq_true]
          intro x hx
          rw [List.eq_of_mem_replicate hx]; decide
        exact congrArg some h_
      have hzero1 := fun n => block_Zero.calls B1 e1 zb true (wq.drewN n) (Kd.C_drewN hc1 n) hi1 hzf
      rw [HNP.out] at hs1 hcutM
      rw [HKK.out] at hs2 hcutQ hcutL
      rw [HNL.out] at hcutM hcutL
      rw [HNQ.out] at hcutQ
      have HB1 := Aside0.mk hzero1
      have HB2 := Aside0.mk (fun n => block_Zero.calls B2 e2 zb true (wq.drewN n) (Kd.C_drewN hc2 n) hi2 hzf)
      clear hzero1 hc1 hc2 hCM hCQ hCL hi1 hi2 hz1 hz2 hzz hzf hr0 hr1 hr2 hnL hST hLE hMF hQL hSL hHN hcM hcQ hcL
      simp only [List.append_eq, List.cons_append, List.nil_append]
      go_quiet (fail)
      go_upto_region 11 with (fail)
      go_quiet ((go_at_call 27; exact hs1 _ _))
      go_upto_region 12 with (fail)
      go_quiet ((go_at_call 27; exact hs2 _ _))
      have hnL0 : (0 : Int) ≤ ((nL - 1 : Nat) : Int) := by omega
      have hnL1 : ((nL - 1 : Nat) : Int) < (nL : Int) := by have := HLL.out; omega
      have g6 : IntKind.i64.wrap ((nL : Int) - 2) = ((nL - 2 : Nat) : Int) := by rw [g3]; have := HLL.out; omega
      have hnL2 : (0 : Int) ≤ ((nL - 2 : Nat) : Int) := by omega
      have hnL3 : ((nL - 2 : Nat) : Int) < (nL : Int) := by have := HLL.out; omega
      clear g3
      generalize hn1 : nL - 1 = n1 at *
      generalize hn2 : nL - 2 = n2 at *
      go_wp2_with (fail)
      refine (HB1.out _).mono ?_
      rintro e wz ⟨rfl, ⟨nd, rfl⟩⟩
      go_wp2_with (fail)
      try simp only [World.drewN_drewN]
      refine (HB2.out _).mono ?_
      rintro e wz ⟨rfl, ⟨nd2, rfl⟩⟩
      go_wp2_with (fail)
      go_ret
      exact ⟨rfl, by repeat (first | exact HB.out | apply pw_below_drewN | apply below_drew1)⟩

end Go.Proofs.Ytlecnodlnkanaaa.X
