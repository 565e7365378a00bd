import Derived.Test.YtpedagpcblnnhaaGreatXK
import Derived.Test.YtpedagpcblnnhaaGreatXGpa
import Derived.Test.YtpedagpcblnnhaaGreatXGpj
import Derived.Test.YtpedagpcblnnhaaGreatXGrb
import Derived.Test.YtpedagpcblnnhaaGreatYAll
import Derived.Test.YtpedagpcblnnhaaGreatP04g
import Derived.Test.YtpedagpcblnnhaaGreatP09a
import Derived.Test.YtpedagpcblnnhaaGreatP09s
import Derived.Test.YtpedagpcblnnhaaGreatP10a
import Derived.Test.YtpedagpcblnnhaaGreatP10s
import Derived.Test.YtpedagpcblnnhaaGreatPGA
import Derived.Test.YtpedagpcblnnhaaGreatPGE
import Derived.Deep.RegionHeld3
import Derived.Laws.EntriesVeiled
import Derived.WalkSpells
namespace Go.Proofs.YtpedagpcblnnhaaGreat.X
open Go.RowKit Go.Proofs.YtpedagpcblnnhaaGreatW.PrintWords Go.Proofs.YtpedagpcblnnhaaGreatW.PrintLast Go.Proofs.YtpedagpcblnnhaaGreatW.PrintMore
attribute [local go_sem] max2_int min2_int max_two min_two
set_option linter.unusedVariables false
set_option linter.unusedSimpArgs false
section
open Go.Proofs.YtpedagpcblnnhaaGreatY
set_option maxRecDepth 100000
set_option maxHeartbeats 1600000 in
theorem read_Used.at_ (A : Option Addr) (c : Nat) (L : List (List Int)) (hL : L.length ≤ 400) (w : World) (hC : Kd.C (Kd.slice 5 (Kd.int .u8)) w A L.length L) (hc : L.length ≤ c) (hby : ∀ x ∈ L, ∀ y ∈ x, 0 ≤ y ∧ y ≤ 255) :
    Calls Tryz.prog 16 #[.slice A L.length c] w fun e w' => e = .returned (.int .i64 ((runR st0 L).2.2.1 : Int)) ∧ Below w.heap.size w w' := by
  have hrun := fun W hC => parse_Run.at_ st0 st0_ok A c L (by omega) W hC hc hby
  have hsm := run_small L
  have hct := run_count L
  obtain ⟨Q, hQ⟩ : ∃ Q, runR st0 L = Q := ⟨_, rfl⟩
  rw [hQ] at hrun hsm hct
  obtain ⟨s, told, n, e0⟩ := Q
  unfold RunPost at hrun
  simp only at hrun hsm hct
  have hrun : ∀ W, Kd.C (Kd.slice 5 (Kd.int .u8)) W A L.length L → Calls Tryz.prog 22 #[.agg #[.int .i64 0, .string ⟨#[]⟩, .string ⟨#[]⟩, .int .u8 0, .int .i64 0, .int .i64 0, .int .i64 0, .int .i64 0, .string ⟨#[]⟩, .int .i64 0, .int .i64 0, .string ⟨#[]⟩, .string ⟨#[]⟩, .string ⟨#[]⟩], .slice A L.length c] W fun e w' => ∃ A4 c4, e = .returned (.tuple #[.agg #[.int .i64 s.f0, .string s.f1.f0, .string s.f1.f1, .int .u8 s.f1.f2, .int .i64 s.f1.f3, .int .i64 s.f1.f4, .int .i64 s.f1.f5, .int .i64 s.f1.f6, .string s.f1.f7, .int .i64 s.f2, .int .i64 s.f3, .string s.f4, .string s.f5, .string s.f6], .slice A4 told.length c4, .int .i64 (n : Int), .int .i64 e0]) ∧ Aside0 (Kd.R k45 45 w' W.heap.size (fun _ => True) (.slice A4 told.length c4) told) ∧ Below W.heap.size W w' := hrun
  rw [hQ]
  clear hQ hsm hct
  go_enter Tryz.func16, Tryz.ntmps16
  go_upto_region 2 with (go_at_call 22; refine (hrun _ hC).mono ?_; rintro e_ w1 ⟨A4, c4, rfl, hR, hb_⟩; have HB1 := Aside0.mk (below_alloc hb_ (.cells #[.int .i64 s.f0, .string s.f1.f0, .string s.f1.f1, .int .u8 s.f1.f2, .int .i64 s.f1.f3, .int .i64 s.f1.f4, .int .i64 s.f1.f5, .int .i64 s.f1.f6, .string s.f1.f7, .int .i64 s.f2, .int .i64 s.f3, .string s.f4, .string s.f5, .string s.f6] 49)); have HS1 := Aside0.mk (heap_alloc_new w1 (.cells #[.int .i64 s.f0, .string s.f1.f0, .string s.f1.f1, .int .u8 s.f1.f2, .int .i64 s.f1.f3, .int .i64 s.f1.f4, .int .i64 s.f1.f5, .int .i64 s.f1.f6, .string s.f1.f7, .int .i64 s.f2, .int .i64 s.f3, .string s.f4, .string s.f5, .string s.f6] 49)); have HE1 := Aside0.mk (Kd.R_reads' (Kd.R_alloc hR.out (.cells #[.int .i64 s.f0, .string s.f1.f0, .string s.f1.f1, .int .u8 s.f1.f2, .int .i64 s.f1.f3, .int .i64 s.f1.f4, .int .i64 s.f1.f5, .int .i64 s.f1.f6, .string s.f1.f7, .int .i64 s.f2, .int .i64 s.f3, .string s.f4, .string s.f5, .string s.f6] 49))).2; clear hb_ hR)
  obtain ⟨W1, hW1⟩ : ∃ W', w1.alloc (.cells #[.int .i64 s.f0, .string s.f1.f0, .string s.f1.f1, .int .u8 s.f1.f2, .int .i64 s.f1.f3, .int .i64 s.f1.f4, .int .i64 s.f1.f5, .int .i64 s.f1.f6, .string s.f1.f7, .int .i64 s.f2, .int .i64 s.f3, .string s.f4, .string s.f5, .string s.f6] 49) = W' := ⟨_, rfl⟩
  rw [hW1] at HB1 HS1 HE1 ⊢
  obtain ⟨gs, hgs⟩ : ∃ k, w1.heap.size = k := ⟨_, rfl⟩
  rw [hgs] at HS1 ⊢
  clear hW1 hgs
  go_wp2_with (fail)
  go_ret
  exact ⟨rfl, HB1.out⟩
end
section
open Go.Proofs.YtpedagpcblnnhaaGreatY
set_option maxRecDepth 100000
def partR (L : List (List Int)) : List Nd × Int := ((gatherF (runR st0 L).2.1).1, (runR st0 L).2.2.2)
def readR (L : List (List Int)) : List Nd × Int := if (runR st0 L).2.2.2 ≠ 0 then ([], (runR st0 L).2.2.2) else if (runR st0 L).1.f0 ≠ 5 then ([], 7) else ((gatherF (runR st0 L).2.1).1, 0)
set_option maxHeartbeats 1600000 in
theorem read_Part.at_ (A : Option Addr) (c : Nat) (L : List (List Int)) (hL : L.length ≤ 400) (w : World) (hC : Kd.C (Kd.slice 5 (Kd.int .u8)) w A L.length L) (hc : L.length ≤ c) (hby : ∀ x ∈ L, ∀ y ∈ x, 0 ≤ y ∧ y ≤ 255) :
    Calls Tryz.prog 11 #[.slice A L.length c] w fun e w' => ∃ A' c', e = .returned (.tuple #[.slice A' (partR L).1.length c', .int .i64 (partR L).2]) ∧ Aside0 (Kd.R kNd 41 w' w.heap.size (fun _ => True) (.slice A' (partR L).1.length c') (partR L).1) ∧ Below w.heap.size w w' := by
  have hrun := fun W hC => parse_Run.at_ st0 st0_ok A c L (by omega) W hC hc hby
  have hsm := run_small L
  have hct := run_count L
  obtain ⟨Q, hQ⟩ : ∃ Q, runR st0 L = Q := ⟨_, rfl⟩
  rw [hQ] at hrun hsm hct
  obtain ⟨s, told, n, e0⟩ := Q
  unfold RunPost at hrun
  simp only at hrun hsm hct
  have hrun : ∀ W, Kd.C (Kd.slice 5 (Kd.int .u8)) W A L.length L → Calls Tryz.prog 22 #[.agg #[.int .i64 0, .string ⟨#[]⟩, .string ⟨#[]⟩, .int .u8 0, .int .i64 0, .int .i64 0, .int .i64 0, .int .i64 0, .string ⟨#[]⟩, .int .i64 0, .int .i64 0, .string ⟨#[]⟩, .string ⟨#[]⟩, .string ⟨#[]⟩], .slice A L.length c] W fun e w' => ∃ A4 c4, e = .returned (.tuple #[.agg #[.int .i64 s.f0, .string s.f1.f0, .string s.f1.f1, .int .u8 s.f1.f2, .int .i64 s.f1.f3, .int .i64 s.f1.f4, .int .i64 s.f1.f5, .int .i64 s.f1.f6, .string s.f1.f7, .int .i64 s.f2, .int .i64 s.f3, .string s.f4, .string s.f5, .string s.f6], .slice A4 told.length c4, .int .i64 (n : Int), .int .i64 e0]) ∧ Aside0 (Kd.R k45 45 w' W.heap.size (fun _ => True) (.slice A4 told.length c4) told) ∧ Below W.heap.size W w' := hrun
  have hgat := fun W A4 c4 h0 h1 => read_Gather.at_ A4 c4 told (by omega) hsm W h0 h1
  unfold partR
  rw [hQ]
  clear hQ hsm hct
  simp only
  generalize gatherF told = T at *
  obtain ⟨o, ok⟩ := T
  simp only at hgat ⊢
  go_enter Tryz.func11, Tryz.ntmps11
  go_upto_region 2 with (go_at_call 22; refine (hrun _ hC).mono ?_; rintro e_ w1 ⟨A4, c4, rfl, hR, hb_⟩; have HB1 := Aside0.mk (below_alloc hb_ (.cells #[.int .i64 s.f0, .string s.f1.f0, .string s.f1.f1, .int .u8 s.f1.f2, .int .i64 s.f1.f3, .int .i64 s.f1.f4, .int .i64 s.f1.f5, .int .i64 s.f1.f6, .string s.f1.f7, .int .i64 s.f2, .int .i64 s.f3, .string s.f4, .string s.f5, .string s.f6] 49)); have HS1 := Aside0.mk (heap_alloc_new w1 (.cells #[.int .i64 s.f0, .string s.f1.f0, .string s.f1.f1, .int .u8 s.f1.f2, .int .i64 s.f1.f3, .int .i64 s.f1.f4, .int .i64 s.f1.f5, .int .i64 s.f1.f6, .string s.f1.f7, .int .i64 s.f2, .int .i64 s.f3, .string s.f4, .string s.f5, .string s.f6] 49)); have HE1 := Aside0.mk (Kd.R_reads' (Kd.R_alloc hR.out (.cells #[.int .i64 s.f0, .string s.f1.f0, .string s.f1.f1, .int .u8 s.f1.f2, .int .i64 s.f1.f3, .int .i64 s.f1.f4, .int .i64 s.f1.f5, .int .i64 s.f1.f6, .string s.f1.f7, .int .i64 s.f2, .int .i64 s.f3, .string s.f4, .string s.f5, .string s.f6] 49))).2; clear hb_ hR)
  obtain ⟨W1, hW1⟩ : ∃ W', w1.alloc (.cells #[.int .i64 s.f0, .string s.f1.f0, .string s.f1.f1, .int .u8 s.f1.f2, .int .i64 s.f1.f3, .int .i64 s.f1.f4, .int .i64 s.f1.f5, .int .i64 s.f1.f6, .string s.f1.f7, .int .i64 s.f2, .int .i64 s.f3, .string s.f4, .string s.f5, .string s.f6] 49) = W' := ⟨_, rfl⟩
  rw [hW1] at HB1 HS1 HE1 ⊢
  obtain ⟨gs, hgs⟩ : ∃ k, w1.heap.size = k := ⟨_, rfl⟩
  rw [hgs] at HS1 ⊢
  clear hW1 hgs
  go_wp2_with (go_at_call 9; refine (hgat _ _ _ HE1.out.2 HE1.out.1).mono ?_; rintro e_ w2 ⟨g2, rfl, hR, hb_⟩; have HB2 := Aside0.mk (below_step HB1.out hb_); have HR2 := Aside0.mk (Kd.R_lower hR.out HB1.out.size); clear hb_ hR)
  refine bodyPost_ret (results_list (rs := [.tmp 2, .tmp 3]) rfl (by simp) (.tmp (.tmp .nil))) rfl ?_
  exact ⟨_, _, rfl, HR2, HB2.out⟩
end
section
open Go.Proofs.YtpedagpcblnnhaaGreatY
set_option maxRecDepth 100000
set_option maxHeartbeats 3200000 in
theorem read_Read.at_ (A : Option Addr) (c : Nat) (L : List (List Int)) (hL : L.length ≤ 400) (w : World) (hC : Kd.C (Kd.slice 5 (Kd.int .u8)) w A L.length L) (hc : L.length ≤ c) (hby : ∀ x ∈ L, ∀ y ∈ x, 0 ≤ y ∧ y ≤ 255) :
    Calls Tryz.prog 13 #[.slice A L.length c] w fun e w' => ∃ A' c', e = .returned (.tuple #[.slice A' (readR L).1.length c', .int .i64 (readR L).2]) ∧ Aside0 (Kd.R kNd 41 w' w.heap.size (fun _ => True) (.slice A' (readR L).1.length c') (readR L).1) ∧ Below w.heap.size w w' := by
  have hrun := fun W hC => parse_Run.at_ st0 st0_ok A c L (by omega) W hC hc hby
  have hsm := run_small L
  have hct := run_count L
  obtain ⟨Q, hQ⟩ : ∃ Q, runR st0 L = Q := ⟨_, rfl⟩
  rw [hQ] at hrun hsm hct
  obtain ⟨s, told, n, e0⟩ := Q
  unfold RunPost at hrun
  simp only at hrun hsm hct
  have hrun : ∀ W, Kd.C (Kd.slice 5 (Kd.int .u8)) W A L.length L → Calls Tryz.prog 22 #[.agg #[.int .i64 0, .string ⟨#[]⟩, .string ⟨#[]⟩, .int .u8 0, .int .i64 0, .int .i64 0, .int .i64 0, .int .i64 0, .string ⟨#[]⟩, .int .i64 0, .int .i64 0, .string ⟨#[]⟩, .string ⟨#[]⟩, .string ⟨#[]⟩], .slice A L.length c] W fun e w' => ∃ A4 c4, e = .returned (.tuple #[.agg #[.int .i64 s.f0, .string s.f1.f0, .string s.f1.f1, .int .u8 s.f1.f2, .int .i64 s.f1.f3, .int .i64 s.f1.f4, .int .i64 s.f1.f5, .int .i64 s.f1.f6, .string s.f1.f7, .int .i64 s.f2, .int .i64 s.f3, .string s.f4, .string s.f5, .string s.f6], .slice A4 told.length c4, .int .i64 (n : Int), .int .i64 e0]) ∧ Aside0 (Kd.R k45 45 w' W.heap.size (fun _ => True) (.slice A4 told.length c4) told) ∧ Below W.heap.size W w' := hrun
  have hgat := fun W A4 c4 h0 h1 => read_Gather.at_ A4 c4 told (by omega) hsm W h0 h1
  unfold readR
  rw [hQ]
  clear hQ hsm hct
  simp only
  generalize gatherF told = T at *
  obtain ⟨o, ok⟩ := T
  simp only at hgat ⊢
  by_cases h0 : e0 = 0
  · subst h0
    rw [if_neg (fun h => h rfl)]
    by_cases h5 : s.f0 = 5
    · rw [if_neg (fun h => h h5)]
      have b5 : (s.f0 != 5) = false := by rw [h5]; rfl
      clear h5
      go_enter Tryz.func13, Tryz.ntmps13
      go_upto_region 2 with (go_at_call 22; refine (hrun _ hC).mono ?_; rintro e_ w1 ⟨A4, c4, rfl, hR, hb_⟩; have HB1 := Aside0.mk (below_alloc hb_ (.cells #[.int .i64 s.f0, .string s.f1.f0, .string s.f1.f1, .int .u8 s.f1.f2, .int .i64 s.f1.f3, .int .i64 s.f1.f4, .int .i64 s.f1.f5, .int .i64 s.f1.f6, .string s.f1.f7, .int .i64 s.f2, .int .i64 s.f3, .string s.f4, .string s.f5, .string s.f6] 49)); have HS1 := Aside0.mk (heap_alloc_new w1 (.cells #[.int .i64 s.f0, .string s.f1.f0, .string s.f1.f1, .int .u8 s.f1.f2, .int .i64 s.f1.f3, .int .i64 s.f1.f4, .int .i64 s.f1.f5, .int .i64 s.f1.f6, .string s.f1.f7, .int .i64 s.f2, .int .i64 s.f3, .string s.f4, .string s.f5, .string s.f6] 49)); have HE1 := Aside0.mk (Kd.R_reads' (Kd.R_alloc hR.out (.cells #[.int .i64 s.f0, .string s.f1.f0, .string s.f1.f1, .int .u8 s.f1.f2, .int .i64 s.f1.f3, .int .i64 s.f1.f4, .int .i64 s.f1.f5, .int .i64 s.f1.f6, .string s.f1.f7, .int .i64 s.f2, .int .i64 s.f3, .string s.f4, .string s.f5, .string s.f6] 49))).2; clear hb_ hR)
      obtain ⟨W1, hW1⟩ : ∃ W', w1.alloc (.cells #[.int .i64 s.f0, .string s.f1.f0, .string s.f1.f1, .int .u8 s.f1.f2, .int .i64 s.f1.f3, .int .i64 s.f1.f4, .int .i64 s.f1.f5, .int .i64 s.f1.f6, .string s.f1.f7, .int .i64 s.f2, .int .i64 s.f3, .string s.f4, .string s.f5, .string s.f6] 49) = W' := ⟨_, rfl⟩
      rw [hW1] at HB1 HS1 HE1 ⊢
      obtain ⟨gs, hgs⟩ : ∃ k, w1.heap.size = k := ⟨_, rfl⟩
      rw [hgs] at HS1 ⊢
      clear hW1 hgs
      have q0 := (blk_cell HS1.out 0).trans (show _ = some (Value.int .i64 s.f0) from rfl)
      go_wp2_with (go_at_call 9; refine (hgat _ _ _ HE1.out.2 HE1.out.1).mono ?_; rintro e_ w2 ⟨g2, rfl, hR, hb_⟩; have HB2 := Aside0.mk (below_step HB1.out hb_); have HR2 := Aside0.mk (Kd.R_lower hR.out HB1.out.size); clear hb_ hR)
      refine bodyPost_ret (results_list (rs := [.tmp 2, .tmp 3]) rfl (by simp) (.tmp (.tmp .nil))) rfl ?_
      exact ⟨_, _, rfl, HR2, HB2.out⟩
    · rw [if_pos h5]
      have b5 : (s.f0 != 5) = true := by simp only [bne, beq_eq_false_iff_ne.2 h5]; rfl
      clear h5 hgat
      go_enter Tryz.func13, Tryz.ntmps13
      go_upto_region 2 with (go_at_call 22; refine (hrun _ hC).mono ?_; rintro e_ w1 ⟨A4, c4, rfl, hR, hb_⟩; have HB1 := Aside0.mk (below_alloc hb_ (.cells #[.int .i64 s.f0, .string s.f1.f0, .string s.f1.f1, .int .u8 s.f1.f2, .int .i64 s.f1.f3, .int .i64 s.f1.f4, .int .i64 s.f1.f5, .int .i64 s.f1.f6, .string s.f1.f7, .int .i64 s.f2, .int .i64 s.f3, .string s.f4, .string s.f5, .string s.f6] 49)); have HS1 := Aside0.mk (heap_alloc_new w1 (.cells #[.int .i64 s.f0, .string s.f1.f0, .string s.f1.f1, .int .u8 s.f1.f2, .int .i64 s.f1.f3, .int .i64 s.f1.f4, .int .i64 s.f1.f5, .int .i64 s.f1.f6, .string s.f1.f7, .int .i64 s.f2, .int .i64 s.f3, .string s.f4, .string s.f5, .string s.f6] 49)); have HE1 := Aside0.mk (Kd.R_reads' (Kd.R_alloc hR.out (.cells #[.int .i64 s.f0, .string s.f1.f0, .string s.f1.f1, .int .u8 s.f1.f2, .int .i64 s.f1.f3, .int .i64 s.f1.f4, .int .i64 s.f1.f5, .int .i64 s.f1.f6, .string s.f1.f7, .int .i64 s.f2, .int .i64 s.f3, .string s.f4, .string s.f5, .string s.f6] 49))).2; clear hb_ hR)
      obtain ⟨W1, hW1⟩ : ∃ W', w1.alloc (.cells #[.int .i64 s.f0, .string s.f1.f0, .string s.f1.f1, .int .u8 s.f1.f2, .int .i64 s.f1.f3, .int .i64 s.f1.f4, .int .i64 s.f1.f5, .int .i64 s.f1.f6, .string s.f1.f7, .int .i64 s.f2, .int .i64 s.f3, .string s.f4, .string s.f5, .string s.f6] 49) = W' := ⟨_, rfl⟩
      rw [hW1] at HB1 HS1 HE1 ⊢
      obtain ⟨gs, hgs⟩ : ∃ k, w1.heap.size = k := ⟨_, rfl⟩
      rw [hgs] at HS1 ⊢
      clear hW1 hgs
      have q0 := (blk_cell HS1.out 0).trans (show _ = some (Value.int .i64 s.f0) from rfl)
      go_wp2_with (fail)
      refine bodyPost_ret (results_list (rs := [.tmp 2, .tmp 3]) rfl (by simp) (.tmp (.tmp .nil))) rfl ?_
      exact ⟨none, 0, rfl, ⟨Kd.R_nil _ _ _ _ _⟩, HB1.out⟩
  · rw [if_pos h0]
    have b0 : (e0 != 0) = true := by simp only [bne, beq_eq_false_iff_ne.2 h0]; rfl
    clear h0 hgat
    go_enter Tryz.func13, Tryz.ntmps13
    go_upto_region 2 with (go_at_call 22; refine (hrun _ hC).mono ?_; rintro e_ w1 ⟨A4, c4, rfl, hR, hb_⟩; have HB1 := Aside0.mk (below_alloc hb_ (.cells #[.int .i64 s.f0, .string s.f1.f0, .string s.f1.f1, .int .u8 s.f1.f2, .int .i64 s.f1.f3, .int .i64 s.f1.f4, .int .i64 s.f1.f5, .int .i64 s.f1.f6, .string s.f1.f7, .int .i64 s.f2, .int .i64 s.f3, .string s.f4, .string s.f5, .string s.f6] 49)); have HS1 := Aside0.mk (heap_alloc_new w1 (.cells #[.int .i64 s.f0, .string s.f1.f0, .string s.f1.f1, .int .u8 s.f1.f2, .int .i64 s.f1.f3, .int .i64 s.f1.f4, .int .i64 s.f1.f5, .int .i64 s.f1.f6, .string s.f1.f7, .int .i64 s.f2, .int .i64 s.f3, .string s.f4, .string s.f5, .string s.f6] 49)); have HE1 := Aside0.mk (Kd.R_reads' (Kd.R_alloc hR.out (.cells #[.int .i64 s.f0, .string s.f1.f0, .string s.f1.f1, .int .u8 s.f1.f2, .int .i64 s.f1.f3, .int .i64 s.f1.f4, .int .i64 s.f1.f5, .int .i64 s.f1.f6, .string s.f1.f7, .int .i64 s.f2, .int .i64 s.f3, .string s.f4, .string s.f5, .string s.f6] 49))).2; clear hb_ hR)
    obtain ⟨W1, hW1⟩ : ∃ W', w1.alloc (.cells #[.int .i64 s.f0, .string s.f1.f0, .string s.f1.f1, .int .u8 s.f1.f2, .int .i64 s.f1.f3, .int .i64 s.f1.f4, .int .i64 s.f1.f5, .int .i64 s.f1.f6, .string s.f1.f7, .int .i64 s.f2, .int .i64 s.f3, .string s.f4, .string s.f5, .string s.f6] 49) = W' := ⟨_, rfl⟩
    rw [hW1] at HB1 HS1 HE1 ⊢
    obtain ⟨gs, hgs⟩ : ∃ k, w1.heap.size = k := ⟨_, rfl⟩
    rw [hgs] at HS1 ⊢
    clear hW1 hgs
    go_wp2_with (fail)
    refine bodyPost_ret (results_list (rs := [.tmp 2, .tmp 3]) rfl (by simp) (.tmp (.tmp .nil))) rfl ?_
    exact ⟨none, 0, rfl, ⟨Kd.R_nil _ _ _ _ _⟩, HB1.out⟩
end
end Go.Proofs.YtpedagpcblnnhaaGreat.X
