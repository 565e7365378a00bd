import Derived.Test.YtpedagpcblnnhaaGreatXK
import Derived.Test.YtpedagpcblnnhaaGreatP06o
import Derived.Test.YtpedagpcblnnhaaGreatP02p
import Derived.Test.YtpedagpcblnnhaaGreatXGpa
import Derived.Test.YtpedagpcblnnhaaGreatXGpj
import Derived.Test.YtpedagpcblnnhaaGreatXGrc
import Derived.Test.YtpedagpcblnnhaaGreatXGrd
import Derived.Test.YtpedagpcblnnhaaGreatXGstream
import Derived.Test.YtpedagpcblnnhaaGreatXreelkeeperlaw06Few
import Derived.Test.YtpedagpcblnnhaaGreatYAll
import Derived.Test.YtpedagpcblnnhaaGreatP04g
import Derived.Test.YtpedagpcblnnhaaGreatP10a
import Derived.Test.YtpedagpcblnnhaaGreatP09a
import Derived.Test.YtpedagpcblnnhaaGreatP09s
import Derived.Test.YtpedagpcblnnhaaGreatP10s
import Derived.Test.YtpedagpcblnnhaaGreatPGA
import Derived.Test.YtpedagpcblnnhaaGreatPGE
import Derived.Deep.RegionHeld3
import Derived.Laws.EntriesVeiled
import Derived.WalkSpells
namespace Go.Proofs.YtpedagpcblnnhaaGreat.X
open Go.RowKit Go.Proofs.YtpedagpcblnnhaaGreatW.PrintWords Go.Proofs.YtpedagpcblnnhaaGreatW.PrintLast Go.Proofs.YtpedagpcblnnhaaGreatW.PrintMore
attribute [local go_sem] max2_int min2_int max_two min_two
set_option linter.unusedVariables false
set_option linter.unusedSimpArgs false
attribute [local go_sem high] eqA41 eqA49
open Go.Proofs.YtpedagpcblnnhaaGreatY
set_option maxRecDepth 100000
def reelkeeperlaw10_ReadCut.f (k : Nat) (t : List Nd) (a : Int) : Option Bool := some true
theorem ReadCut_told (t : List Nd) (a : Int) : ∃ k, reelkeeperlaw10_ReadCut.f k t a = some true := ⟨0, rfl⟩
set_option maxHeartbeats 12800000 in
theorem read_cut.at_ (A : Option Addr) (c : Nat) (t : List Nd) (a : Int) (w : World) (hC : Kd.C kNode w A t.length t) (hc : t.length ≤ c) :
    Calls Tryz.prog 5 #[.slice A t.length c, .int .i64 a] w fun e w' => e = .returned (.bool true) ∧ Below w.heap.size w w' := by
  have HC := Aside0.mk hC
  have HB0 := Aside0.mk (Below.refl w.heap.size w)
  have hup := fun W => awake10.at_ W
  obtain ⟨kf, hkf⟩ := Ev.rounds (few_ev t)
  have hfew := fun W hC' => reelkeeperlaw06_Few.calls kf A c t _ W hC' hc hkf
  clear hkf hC
  cases hf : fewL t with
  | false =>
    rw [hf] at hfew
    clear hf
    go_enter Tryz.func5, Tryz.ntmps5
    go_wp2_with (first | (go_at_call 6; refine (hup _).mono ?_; rintro e_ w1 ⟨rfl, hb_⟩; have HB1 := Aside0.mk (below_step HB0.out hb_); clear hb_) | (go_at_call 18; refine (hfew _ (Kd.C_below HC.out HB1.out)).mono ?_; rintro e_ w2 ⟨rfl, hb_⟩; have HB2 := Aside0.mk (below_step HB1.out hb_); clear hb_))
    go_ret
    exact ⟨rfl, HB2.out⟩
  | true =>
  rw [hf] at hfew
  obtain ⟨hl30, hok⟩ := fewL_iff.1 hf
  clear hf
  obtain ⟨km, hkm⟩ := Ev.rounds (may_ev hok)
  have hall : ∀ W, Kd.C kNode W A t.length t → Calls Tryz.prog 19 #[.slice A t.length c] W fun e w' => ∃ A3 c3, e = .returned (.tuple #[.slice A3 (if mayF t = true then bodyB t ++ zeroB else []).length c3, .bool (mayF t)]) ∧ Aside0 (Kd.C kRw w' A3 (if mayF t = true then bodyB t ++ zeroB else []).length (if mayF t = true then bodyB t ++ zeroB else [])) ∧ Aside0 ((if mayF t = true then bodyB t ++ zeroB else []).length ≤ c3) ∧ Below W.heap.size W w' := fun W hC' => (stream_All.at_ t km (mayF t) hkm (mayF_facts hok) A c W hC' hc).mono fun e w' ⟨v, he, hR, hb⟩ => by
    obtain ⟨A3, c3, rfl, h1, h2⟩ := Kd.R_reads hR
    exact ⟨A3, c3, he, ⟨h2⟩, ⟨h1⟩, hb⟩
  clear hkm
  cases hm : mayF t with
  | false =>
    rw [hm] at hall
    simp only [Bool.false_eq_true, if_false] at hall
    clear hm hok
    go_enter Tryz.func5, Tryz.ntmps5
    go_wp2_with (first | (go_at_call 6; refine (hup _).mono ?_; rintro e_ w1 ⟨rfl, hb_⟩; have HB1 := Aside0.mk (below_step HB0.out hb_); clear hb_) | (go_at_call 18; refine (hfew _ (Kd.C_below HC.out HB1.out)).mono ?_; rintro e_ w2 ⟨rfl, hb_⟩; have HB2 := Aside0.mk (below_step HB1.out hb_); clear hb_) | (go_at_call 19; refine (hall _ (Kd.C_below HC.out HB2.out)).mono ?_; rintro e_ w3 ⟨A3, c3, rfl, hL3, hc3, hb_⟩; have HB3 := Aside0.mk (below_step HB2.out hb_); have HR3 := hL3; have HC3 := hc3; clear hb_ hL3 hc3))
    go_ret
    exact ⟨by simp, HB3.out⟩
  | true =>
  rw [hm] at hall
  simp only [if_true] at hall
  obtain ⟨hl20, hone⟩ := mayF_facts hok hm
  have hbl := bodyB_few t (fun n hn => oneB_facts (hone n hn))
  have hcm := @cut_more t hone
  have hby := allB_by hone
  have hll : (bodyB t ++ zeroB).length ≤ 300 := by
    rw [List.length_append]
    show (bodyB t).length + 2 ≤ 300
    omega
  obtain ⟨L, hL⟩ : ∃ L, bodyB t ++ zeroB = L := ⟨_, rfl⟩
  rw [hL] at hall hcm hby hll
  obtain ⟨nL, hnL⟩ : ∃ k, L.length = k := ⟨_, rfl⟩
  rw [hnL] at hall hcm hll
  by_cases ha0 : a < 0
  · have b1 : decide (a < 0) = true := decide_eq_true ha0
    clear hm hone hbl hcm hby hll hL hnL hok hl30 hl20 ha0
    go_enter Tryz.func5, Tryz.ntmps5
    go_wp2_with (first | (go_at_call 6; refine (hup _).mono ?_; rintro e_ w1 ⟨rfl, hb_⟩; have HB1 := Aside0.mk (below_step HB0.out hb_); clear hb_) | (go_at_call 18; refine (hfew _ (Kd.C_below HC.out HB1.out)).mono ?_; rintro e_ w2 ⟨rfl, hb_⟩; have HB2 := Aside0.mk (below_step HB1.out hb_); clear hb_) | (go_at_call 19; refine (hall _ (Kd.C_below HC.out HB2.out)).mono ?_; rintro e_ w3 ⟨A3, c3, rfl, hL3, hc3, hb_⟩; have HB3 := Aside0.mk (below_step HB2.out hb_); have HR3 := hL3; have HC3 := hc3; clear hb_ hL3 hc3))
    go_ret
    exact ⟨by simp, HB3.out⟩
  have b1 : decide (a < 0) = false := decide_eq_false ha0
  obtain ⟨kn, rfl⟩ : ∃ kn : Nat, a = (kn : Int) := ⟨a.toNat, by omega⟩
  by_cases hkn : nL ≤ kn
  · have b2 : decide ((kn : Int) ≥ (nL : Int)) = true := decide_eq_true (by omega)
    have b3 : decide ((nL : Int) ≤ (kn : Int)) = true := decide_eq_true (by omega)
    have b4 : decide (nL ≤ kn) = true := decide_eq_true hkn
    clear hm hone hbl hcm hby hll hL hnL hok hl30 hl20 hkn ha0
    go_enter Tryz.func5, Tryz.ntmps5
    go_wp2_with (first | (go_at_call 6; refine (hup _).mono ?_; rintro e_ w1 ⟨rfl, hb_⟩; have HB1 := Aside0.mk (below_step HB0.out hb_); clear hb_) | (go_at_call 18; refine (hfew _ (Kd.C_below HC.out HB1.out)).mono ?_; rintro e_ w2 ⟨rfl, hb_⟩; have HB2 := Aside0.mk (below_step HB1.out hb_); clear hb_) | (go_at_call 19; refine (hall _ (Kd.C_below HC.out HB2.out)).mono ?_; rintro e_ w3 ⟨A3, c3, rfl, hL3, hc3, hb_⟩; have HB3 := Aside0.mk (below_step HB2.out hb_); have HR3 := hL3; have HC3 := hc3; clear hb_ hL3 hc3))
    go_ret
    exact ⟨by simp, HB3.out⟩
  have b2 : decide ((kn : Int) ≥ (nL : Int)) = false := decide_eq_false (by omega)
  have b3 : decide ((nL : Int) ≤ (kn : Int)) = false := decide_eq_false (by omega)
  have b4 : decide (nL ≤ kn) = false := decide_eq_false hkn
  obtain ⟨q1, q2, q3⟩ := hcm (k := kn) (by omega)
  have htl : (L.take kn).length = kn := by rw [List.length_take]; omega
  have hbyk : ∀ x ∈ L.take kn, ∀ y ∈ x, 0 ≤ y ∧ y ≤ 255 := fun x hx => hby x (List.mem_of_mem_take hx)
  have hrr : readR (L.take kn) = ([], 7) := by
    unfold readR
    rw [q1, if_neg (fun h => h rfl), if_pos q2]
  have hpp : partR (L.take kn) = ((gatherF (runR st0 (L.take kn)).2.1).1, 0) := by
    unfold partR
    rw [q1]
  generalize (gatherF (runR st0 (L.take kn)).2.1).1 = u at *
  obtain ⟨hm1, hm2⟩ := more_at q3
  obtain ⟨uL, huL⟩ : ∃ k, u.length = k := ⟨_, rfl⟩
  have hck : nL ≤ 1000 := by omega
  have hrd : ∀ (A3 : Option Addr) (c3 : Nat), kn ≤ c3 → ∀ W, Kd.C kRw W A3 (L.take kn).length (L.take kn) → Calls Tryz.prog 13 #[.slice A3 kn c3] W fun e w' => ∃ A' c', e = .returned (.tuple #[.slice A' 0 c', .int .i64 7]) ∧ Aside0 (c' = c') ∧ Below W.heap.size W w' := fun A3 c3 h3 W hC => by
    have h_ := read_Read.at_ A3 c3 (L.take kn) (by omega) W hC (by omega) hbyk
    rw [hrr, htl] at h_
    exact h_.mono fun e w' ⟨A, c, he, _, hb⟩ => ⟨A, c, he, ⟨rfl⟩, hb⟩
  have hpt : ∀ (A3 : Option Addr) (c3 : Nat), kn ≤ c3 → ∀ W, Kd.C kRw W A3 (L.take kn).length (L.take kn) → Calls Tryz.prog 11 #[.slice A3 kn c3] W fun e w' => ∃ A' c', e = .returned (.tuple #[.slice A' uL c', .int .i64 0]) ∧ Aside0 (Kd.R kNd 41 w' W.heap.size (fun _ => True) (.slice A' uL c') u) ∧ Below W.heap.size W w' := fun A3 c3 h3 W hC => by
    have h_ := read_Part.at_ A3 c3 (L.take kn) (by omega) W hC (by omega) hbyk
    rw [hpp, htl] at h_
    simp only [huL] at h_
    exact h_
  rw [huL] at hm1 hm2
  have HMO := Aside0.mk (show True ∧ uL ≤ t.length ∧ _ from ⟨trivial, hm1, hm2⟩)
  have HUL9 := Aside0.mk (show uL ≤ 1000 by omega)
  have HUU := Aside0.mk huL
  have HNL := Aside0.mk hnL
  have HKL := Aside0.mk (show kn ≤ L.length by omega)
  have HKN := Aside0.mk (show kn ≤ nL by omega)
  have c1 : decide ((uL : Int) > (t.length : Int)) = false := decide_eq_false (by omega)
  have c1b : decide ((t.length : Int) < (uL : Int)) = false := decide_eq_false (by omega)
  have c2 : decide (t.length < uL) = false := decide_eq_false (by omega)
  have c3_ : (0 : Int) ≤ (kn : Int) := by omega
  clear hm hone hbl hcm hby hll hL hnL hok hl30 hl20 hkn ha0 q1 q2 q3 htl hbyk hrr hpp hm1 hm2 huL hck
  go_enter Tryz.func5, Tryz.ntmps5
  go_upto_region 8 with (first | (go_at_call 6; refine (hup _).mono ?_; rintro e_ w1 ⟨rfl, hb_⟩; have HB1 := Aside0.mk (below_step HB0.out hb_); clear hb_) | (go_at_call 18; refine (hfew _ (Kd.C_below HC.out HB1.out)).mono ?_; rintro e_ w2 ⟨rfl, hb_⟩; have HB2 := Aside0.mk (below_step HB1.out hb_); clear hb_) | (go_at_call 19; refine (hall _ (Kd.C_below HC.out HB2.out)).mono ?_; rintro e_ w3 ⟨A3, c3, rfl, hL3, hc3, hb_⟩; have HB3 := Aside0.mk (below_step HB2.out hb_); have HR3 := hL3; have HC3 := hc3; clear hb_ hL3 hc3))
  have hk3 : kn ≤ c3 := Nat.le_trans HKN.out HC3.out
  have hk4 : (kn : Int) ≤ (c3 : Int) := by omega
  have hrd := hrd A3 c3 hk3
  have hpt := hpt A3 c3 hk3
  have HR3 := Aside0.mk (show Kd.C kRw w3 A3 L.length L by have h_ := HR3.out; rw [HNL.out]; exact h_)
  clear hup hfew hall
  go_upto_region 9 with (go_at_call 11; refine (hpt _ (Kd.C_take HR3.out HKL.out)).mono ?_; rintro e_ w4 ⟨A4, c4, rfl, hR, hb_⟩; have HB4 := Aside0.mk (below_step HB3.out hb_); have HR4 := Aside0.mk (Kd.C_below HR3.out hb_); have HU4 := Aside0.mk (Kd.R_reads' hR.out).2.2; clear hb_ hR)
  go_upto_region 10 with (go_at_call 13; refine (hrd _ (Kd.C_take HR4.out HKL.out)).mono ?_; rintro e_ w5 ⟨A5, c5, rfl, -, hb_⟩; have HB5 := Aside0.mk (below_step HB4.out hb_); have HU5 := Aside0.mk (Kd.C_below HU4.out hb_); clear hb_)
  have HB9 := HB5
  have HU9 := Aside0.mk (show Kd.C kNd w5 A4 uL u by have h_ := HU5.out; rw [HUU.out] at h_; exact h_)
  clear HB5 HB4 HB3 HR3 HR4 HU4 HU5 hrd hpt
  go_wp2_with (fail)
  go_loopw [13] (fun v13 wr => ∃ i : Nat, v13 = .int .i64 i ∧ i ≤ uL ∧ Aside0 (Below w.heap.size w wr) ∧ Aside0 (Kd.C kNd wr A4 uL u)) (fun v13 _ => uL - (intOf v13).toNat)
  case atStart => exact ⟨0, rfl, Nat.zero_le _, HB9, HU9⟩
  case round =>
    obtain ⟨i, rfl, hi, HBr, HUr⟩ := hrel
    clear HB9 HU9
    by_cases hlt : i < uL
    · obtain ⟨y, d, hy, hu, hd⟩ := HMO.out.2.2 i hlt
      obtain ⟨ad, rfl, l0, l1, l2, l3, l4, l5, l6, l7⟩ := nd_cells HUr.out hlt _ hy
      obtain ⟨ae, rfl, k0, k1, k2, k3, k4, k5, k6, k7⟩ := nd_cells (Kd.C_below HC.out HBr.out) (Nat.lt_of_lt_of_le hlt HMO.out.2.1) _ hu
      obtain ⟨y0, y1, y2, y3, y4, y5, y6, y7⟩ := y
      obtain ⟨D, hD⟩ : ∃ D, y7 ++ d = D := ⟨_, rfl⟩
      have hcut : D.extract 0 y7.size = y7 := by rw [← hD]; exact addD_cut y7 d
      have hsz : y7.size ≤ D.size := by rw [← hD, ByteArray.size_append]; omega
      replace k0 : wr.cell? (ae.add (i * 8)) = some (.string y0) := k0
      replace k1 : wr.cell? ⟨(ae.add (i * 8)).block, (ae.add (i * 8)).off + 1, none⟩ = some (.string y1) := k1
      replace k2 : wr.cell? ⟨(ae.add (i * 8)).block, (ae.add (i * 8)).off + 2, none⟩ = some (.int .u8 y2) := k2
      replace k3 : wr.cell? ⟨(ae.add (i * 8)).block, (ae.add (i * 8)).off + 3, none⟩ = some (.int .i64 y3) := k3
      replace k4 : wr.cell? ⟨(ae.add (i * 8)).block, (ae.add (i * 8)).off + 4, none⟩ = some (.int .i64 y4) := k4
      replace k5 : wr.cell? ⟨(ae.add (i * 8)).block, (ae.add (i * 8)).off + 5, none⟩ = some (.int .i64 y5) := k5
      replace k6 : wr.cell? ⟨(ae.add (i * 8)).block, (ae.add (i * 8)).off + 6, none⟩ = some (.int .i64 y6) := k6
      replace k7 : wr.cell? ⟨(ae.add (i * 8)).block, (ae.add (i * 8)).off + 7, none⟩ = some (.string D) := by rw [← hD]; exact k7
      have hDd : i + 1 < uL → D = y7 := fun h => by rw [← hD, hd h]; exact ByteArray.append_empty
      clear hy hu hd hD
      obtain ⟨p, hp⟩ : ∃ p, p + 1 = uL := ⟨uL - 1, by omega⟩
      have hi1 : (i : Int) < (uL : Int) := by omega
      have hi2 : (i : Int) < (t.length : Int) := by have h_ := HMO.out.2.1; omega
      have hi0 : (0 : Int) ≤ (i : Int) := by omega
      have hw : IntKind.i64.wrap ((i : Int) + 1) = ((i + 1 : Nat) : Int) := by have h_ := HUL9.out; rw [i64_w, wrap_id (by omega) (by omega)]; omega
      have hw2 : IntKind.i64.wrap ((uL : Int) - 1) = (p : Int) := by have h_ := HUL9.out; rw [i64_w, wrap_id (by omega) (by omega)]; omega
      have s1 : decide ((y7.size : Int) > (D.size : Int)) = false := decide_eq_false (by omega)
      have s1b : decide ((D.size : Int) < (y7.size : Int)) = false := decide_eq_false (by omega)
      have s2 : decide (D.size < y7.size) = false := decide_eq_false (by omega)
      have s3 : (0 : Int) ≤ (y7.size : Int) := by omega
      have s4 : (y7.size : Int) ≤ (D.size : Int) := by omega
      go_upto_region 16 with (fail)
      have HB5 := Aside0.mk (below_alloc HBr.out (.cells #[.string y0, .string y1, .int .u8 y2, .int .i64 y3, .int .i64 y4, .int .i64 y5, .int .i64 y6, .string D] 41))
      have HW5 := Aside0.mk (below_alloc (Below.refl wr.heap.size wr) (.cells #[.string y0, .string y1, .int .u8 y2, .int .i64 y3, .int .i64 y4, .int .i64 y5, .int .i64 y6, .string D] 41))
      have HX5 := Aside0.mk (heap_alloc_new wr (.cells #[.string y0, .string y1, .int .u8 y2, .int .i64 y3, .int .i64 y4, .int .i64 y5, .int .i64 y6, .string D] 41))
      have HGE := Aside0.mk HBr.out.size
      obtain ⟨W5, hW_⟩ : ∃ W', wr.alloc (.cells #[.string y0, .string y1, .int .u8 y2, .int .i64 y3, .int .i64 y4, .int .i64 y5, .int .i64 y6, .string D] 41) = W' := ⟨_, rfl⟩
      rw [hW_] at HB5 HW5 HX5 ⊢
      obtain ⟨g, hg_⟩ : ∃ k, wr.heap.size = k := ⟨_, rfl⟩
      have HGW := Aside0.mk hg_
      have HLF : Aside0 (∀ W, Below g wr W → W.cell? (ad.add (i * 8)) = some (.string y0) ∧ W.cell? ⟨(ad.add (i * 8)).block, (ad.add (i * 8)).off + 1, none⟩ = some (.string y1) ∧ W.cell? ⟨(ad.add (i * 8)).block, (ad.add (i * 8)).off + 2, none⟩ = some (.int .u8 y2) ∧ W.cell? ⟨(ad.add (i * 8)).block, (ad.add (i * 8)).off + 3, none⟩ = some (.int .i64 y3) ∧ W.cell? ⟨(ad.add (i * 8)).block, (ad.add (i * 8)).off + 4, none⟩ = some (.int .i64 y4) ∧ W.cell? ⟨(ad.add (i * 8)).block, (ad.add (i * 8)).off + 5, none⟩ = some (.int .i64 y5) ∧ W.cell? ⟨(ad.add (i * 8)).block, (ad.add (i * 8)).off + 6, none⟩ = some (.int .i64 y6) ∧ W.cell? ⟨(ad.add (i * 8)).block, (ad.add (i * 8)).off + 7, none⟩ = some (.string y7)) := ⟨fun W hb => by rw [← hg_] at hb; exact ⟨pw_cell_below hb l0, pw_cell_below hb l1, pw_cell_below hb l2, pw_cell_below hb l3, pw_cell_below hb l4, pw_cell_below hb l5, pw_cell_below hb l6, pw_cell_below hb l7⟩⟩
      rw [hg_] at HW5 HX5 HGE ⊢
      clear hW_ hg_ k0 k1 k2 k3 k4 k5 k6 k7 l0 l1 l2 l3 l4 l5 l6 l7
      obtain ⟨l0, l1, l2, l3, l4, l5, l6, l7⟩ := HLF.out _ HW5.out
      by_cases hip : i < p
      · have h7 := (hDd (by omega)).symm
        subst h7
        obtain ⟨x0, x1, x2, x3, x4, x5, x6, x7⟩ := cells8 HX5.out
        have p1 : decide ((i : Int) < (p : Int)) = true := decide_eq_true (by omega)
        have p2 : decide (i < p) = true := decide_eq_true hip
        clear hDd
        refine start_ (n := 25) (S := fun w' => w'.cell? ⟨g, 0, none⟩ = some (.string y0) ∧ w'.cell? ⟨g, 1, none⟩ = some (.string y1) ∧ w'.cell? ⟨g, 2, none⟩ = some (.int .u8 y2) ∧ w'.cell? ⟨g, 3, none⟩ = some (.int .i64 y3) ∧ w'.cell? ⟨g, 4, none⟩ = some (.int .i64 y4) ∧ w'.cell? ⟨g, 5, none⟩ = some (.int .i64 y5) ∧ w'.cell? ⟨g, 6, none⟩ = some (.int .i64 y6) ∧ w'.cell? ⟨g, 7, none⟩ = some (.string y7) ∧ w'.cell? (ad.add (i * 8)) = some (.string y0) ∧ w'.cell? ⟨(ad.add (i * 8)).block, (ad.add (i * 8)).off + 1, none⟩ = some (.string y1) ∧ w'.cell? ⟨(ad.add (i * 8)).block, (ad.add (i * 8)).off + 2, none⟩ = some (.int .u8 y2) ∧ w'.cell? ⟨(ad.add (i * 8)).block, (ad.add (i * 8)).off + 3, none⟩ = some (.int .i64 y3) ∧ w'.cell? ⟨(ad.add (i * 8)).block, (ad.add (i * 8)).off + 4, none⟩ = some (.int .i64 y4) ∧ w'.cell? ⟨(ad.add (i * 8)).block, (ad.add (i * 8)).off + 5, none⟩ = some (.int .i64 y5) ∧ w'.cell? ⟨(ad.add (i * 8)).block, (ad.add (i * 8)).off + 6, none⟩ = some (.int .i64 y6) ∧ w'.cell? ⟨(ad.add (i * 8)).block, (ad.add (i * 8)).off + 7, none⟩ = some (.string y7)) (ds := []) #[false, false, false, false, false, false, false, false, false, false, false, false, false, false, false, false, false, false, false, false, false, false, false, false, false] (by as_aux_lemma => kernel_rfl) rfl rfl ⟨x0, x1, x2, x3, x4, x5, x6, x7, l0, l1, l2, l3, l4, l5, l6, l7⟩ (fun hHeld => ?_)
        refine pure_ (i := 0) (N := some 84) (v := ?_) (a' := ?_) #[true, false, false, false, false, false, false, false, false, false, false, false, false, false, false, false, false, false, false, false, false, false, false, false, false] rfl rfl (by as_aux_lemma => kernel_rfl) (fun _ _ _ h => h) (Or.inl ⟨by rfl, ?_⟩) ?_ ?_
        rotate_left
        · intro w'
          go_simp
          with_reducible rfl
        rotate_left
        · aput
          rfl
        refine pure_ (i := 1) (N := some 85) (v := ?_) (a' := ?_) #[true, true, false, false, false, false, false, false, false, false, false, false, false, false, false, false, false, false, false, false, false, false, false, false, false] rfl rfl (by as_aux_lemma => kernel_rfl) (fun _ _ _ h => h) (Or.inl ⟨by rfl, ?_⟩) ?_ ?_
        rotate_left
        · intro w'
          go_simp
          with_reducible rfl
        rotate_left
        · aput
          rfl
        refine pure_ (i := 2) (N := some 86) (v := ?_) (a' := ?_) #[true, true, true, false, false, false, false, false, false, false, false, false, false, false, false, false, false, false, false, false, false, false, false, false, false] rfl rfl (by as_aux_lemma => kernel_rfl) (fun _ _ _ h => h) (Or.inl ⟨by rfl, ?_⟩) ?_ ?_
        rotate_left
        · intro w'
          go_simp
          with_reducible rfl
        rotate_left
        · aput
          rfl
        refine pure_ (i := 3) (N := some 87) (v := ?_) (a' := ?_) #[true, true, true, true, false, false, false, false, false, false, false, false, false, false, false, false, false, false, false, false, false, false, false, false, false] rfl rfl (by as_aux_lemma => kernel_rfl) (fun _ _ _ h => h) (Or.inl ⟨by rfl, ?_⟩) ?_ ?_
        rotate_left
        · intro w'
          go_simp
          with_reducible rfl
        rotate_left
        · aput
          rfl
        refine take_ (i := 4) (N := some 88) (v := ?_) (a' := ?_) #[true, true, true, true, true, false, false, false, false, false, false, false, false, false, false, false, false, false, false, false, false, false, false, false, false] rfl rfl (by as_aux_lemma => kernel_rfl) (fun _ _ _ h => h) (Or.inl ⟨by rfl, ?_⟩) hHeld ?_ ?_
        rotate_left
        · rintro w' ⟨s0, s1, s2, s3, s4, s5, s6, s7, s8, s9, s10, s11, s12, s13, s14, s15⟩
          go_simp
          with_reducible rfl
        rotate_left
        · aput
          rfl
        refine pure_ (i := 5) (N := some 89) (v := ?_) (a' := ?_) #[true, true, true, true, true, true, false, false, false, false, false, false, false, false, false, false, false, false, false, false, false, false, false, false, false] rfl rfl (by as_aux_lemma => kernel_rfl) (fun _ _ _ h => h) (Or.inl ⟨by rfl, ?_⟩) ?_ ?_
        rotate_left
        · intro w'
          go_simp
          with_reducible rfl
        rotate_left
        · aput
          rfl
        refine pure_ (i := 6) (N := some 90) (v := ?_) (a' := ?_) #[true, true, true, true, true, true, true, false, false, false, false, false, false, false, false, false, false, false, false, false, false, false, false, false, false] rfl rfl (by as_aux_lemma => kernel_rfl) (fun _ _ _ h => h) (Or.inl ⟨by rfl, ?_⟩) ?_ ?_
        rotate_left
        · intro w'
          go_simp
          with_reducible rfl
        rotate_left
        · aput
          rfl
        refine take_ (i := 7) (N := some 91) (v := ?_) (a' := ?_) #[true, true, true, true, true, true, true, true, false, false, false, false, false, false, false, false, false, false, false, false, false, false, false, false, false] rfl rfl (by as_aux_lemma => kernel_rfl) (fun _ _ _ h => h) (Or.inl ⟨by rfl, ?_⟩) hHeld ?_ ?_
        rotate_left
        · rintro w' ⟨s0, s1, s2, s3, s4, s5, s6, s7, s8, s9, s10, s11, s12, s13, s14, s15⟩
          go_simp
          with_reducible rfl
        rotate_left
        · aput
          rfl
        refine pure_ (i := 8) (N := some 92) (v := ?_) (a' := ?_) #[true, true, true, true, true, true, true, true, true, false, false, false, false, false, false, false, false, false, false, false, false, false, false, false, false] rfl rfl (by as_aux_lemma => kernel_rfl) (fun _ _ _ h => h) (Or.inl ⟨by rfl, ?_⟩) ?_ ?_
        rotate_left
        · intro w'
          go_simp
          with_reducible rfl
        rotate_left
        · aput
          rfl
        refine pure_ (i := 9) (N := some 93) (v := ?_) (a' := ?_) #[true, true, true, true, true, true, true, true, true, true, false, false, false, false, false, false, false, false, false, false, false, false, false, false, false] rfl rfl (by as_aux_lemma => kernel_rfl) (fun _ _ _ h => h) (Or.inl ⟨by rfl, ?_⟩) ?_ ?_
        rotate_left
        · intro w'
          go_simp
          with_reducible rfl
        rotate_left
        · aput
          rfl
        refine pure_ (i := 10) (N := some 94) (v := ?_) (a' := ?_) #[true, true, true, true, true, true, true, true, true, true, true, false, false, false, false, false, false, false, false, false, false, false, false, false, false] rfl rfl (by as_aux_lemma => kernel_rfl) (fun _ _ _ h => h) (Or.inl ⟨by rfl, ?_⟩) ?_ ?_
        rotate_left
        · intro w'
          go_simp
          with_reducible rfl
        rotate_left
        · aput
          rfl
        refine pure_ (i := 11) (N := some 95) (v := ?_) (a' := ?_) #[true, true, true, true, true, true, true, true, true, true, true, true, false, false, false, false, false, false, false, false, false, false, false, false, false] rfl rfl (by as_aux_lemma => kernel_rfl) (fun _ _ _ h => h) (Or.inl ⟨by rfl, ?_⟩) ?_ ?_
        rotate_left
        · intro w'
          go_simp
          with_reducible rfl
        rotate_left
        · aput
          rfl
        refine pure_ (i := 12) (N := some 96) (v := ?_) (a' := ?_) #[true, true, true, true, true, true, true, true, true, true, true, true, true, false, false, false, false, false, false, false, false, false, false, false, false] rfl rfl (by as_aux_lemma => kernel_rfl) (fun _ _ _ h => h) (Or.inl ⟨by rfl, ?_⟩) ?_ ?_
        rotate_left
        · intro w'
          go_simp
          with_reducible rfl
        rotate_left
        · aput
          rfl
        refine pure_ (i := 13) (N := some 97) (v := ?_) (a' := ?_) #[true, true, true, true, true, true, true, true, true, true, true, true, true, true, false, false, false, false, false, false, false, false, false, false, false] rfl rfl (by as_aux_lemma => kernel_rfl) (fun _ _ _ h => h) (Or.inl ⟨by rfl, ?_⟩) ?_ ?_
        rotate_left
        · intro w'
          go_simp
          with_reducible rfl
        rotate_left
        · aput
          rfl
        refine pure_ (i := 14) (N := some 98) (v := ?_) (a' := ?_) #[true, true, true, true, true, true, true, true, true, true, true, true, true, true, true, false, false, false, false, false, false, false, false, false, false] rfl rfl (by as_aux_lemma => kernel_rfl) (fun _ _ _ h => h) (Or.inl ⟨by rfl, ?_⟩) ?_ ?_
        rotate_left
        · intro w'
          go_simp
          with_reducible rfl
        rotate_left
        · aput
          rfl
        refine pure_ (i := 15) (N := some 99) (v := ?_) (a' := ?_) #[true, true, true, true, true, true, true, true, true, true, true, true, true, true, true, true, false, false, false, false, false, false, false, false, false] rfl rfl (by as_aux_lemma => kernel_rfl) (fun _ _ _ h => h) (Or.inl ⟨by rfl, ?_⟩) ?_ ?_
        rotate_left
        · intro w'
          go_simp
          with_reducible rfl
        rotate_left
        · aput
          rfl
        refine pure_ (i := 16) (N := some 100) (v := ?_) (a' := ?_) #[true, true, true, true, true, true, true, true, true, true, true, true, true, true, true, true, true, false, false, false, false, false, false, false, false] rfl rfl (by as_aux_lemma => kernel_rfl) (fun _ _ _ h => h) (Or.inl ⟨by rfl, ?_⟩) ?_ ?_
        rotate_left
        · intro w'
          go_simp
          with_reducible rfl
        rotate_left
        · aput
          rfl
        refine pure_ (i := 17) (N := some 101) (v := ?_) (a' := ?_) #[true, true, true, true, true, true, true, true, true, true, true, true, true, true, true, true, true, true, false, false, false, false, false, false, false] rfl rfl (by as_aux_lemma => kernel_rfl) (fun _ _ _ h => h) (Or.inl ⟨by rfl, ?_⟩) ?_ ?_
        rotate_left
        · intro w'
          go_simp
          with_reducible rfl
        rotate_left
        · aput
          rfl
        refine pure_ (i := 18) (N := some 102) (v := ?_) (a' := ?_) #[true, true, true, true, true, true, true, true, true, true, true, true, true, true, true, true, true, true, true, false, false, false, false, false, false] rfl rfl (by as_aux_lemma => kernel_rfl) (fun _ _ _ h => h) (Or.inl ⟨by rfl, ?_⟩) ?_ ?_
        rotate_left
        · intro w'
          go_simp
          with_reducible rfl
        rotate_left
        · aput
          rfl
        refine pure_ (i := 19) (N := some 103) (v := ?_) (a' := ?_) #[true, true, true, true, true, true, true, true, true, true, true, true, true, true, true, true, true, true, true, true, false, false, false, false, false] rfl rfl (by as_aux_lemma => kernel_rfl) (fun _ _ _ h => h) (Or.inl ⟨by rfl, ?_⟩) ?_ ?_
        rotate_left
        · intro w'
          go_simp
          with_reducible rfl
        rotate_left
        · aput
          rfl
        refine take_ (i := 20) (N := some 104) (v := ?_) (a' := ?_) #[true, true, true, true, true, true, true, true, true, true, true, true, true, true, true, true, true, true, true, true, true, false, false, false, false] rfl rfl (by as_aux_lemma => kernel_rfl) (fun _ _ _ h => h) (Or.inl ⟨by rfl, ?_⟩) hHeld ?_ ?_
        rotate_left
        · rintro w' ⟨s0, s1, s2, s3, s4, s5, s6, s7, s8, s9, s10, s11, s12, s13, s14, s15⟩
          go_simp
          with_reducible rfl
        rotate_left
        · aput
          rfl
        refine take_ (i := 21) (N := some 105) (v := ?_) (a' := ?_) #[true, true, true, true, true, true, true, true, true, true, true, true, true, true, true, true, true, true, true, true, true, true, false, false, false] rfl rfl (by as_aux_lemma => kernel_rfl) (fun _ _ _ h => h) (Or.inl ⟨by rfl, ?_⟩) hHeld ?_ ?_
        rotate_left
        · rintro w' ⟨s0, s1, s2, s3, s4, s5, s6, s7, s8, s9, s10, s11, s12, s13, s14, s15⟩
          go_simp
          with_reducible rfl
        rotate_left
        · aput
          rfl
        refine pure_ (i := 22) (N := some 106) (v := ?_) (a' := ?_) #[true, true, true, true, true, true, true, true, true, true, true, true, true, true, true, true, true, true, true, true, true, true, true, false, false] rfl rfl (by as_aux_lemma => kernel_rfl) (fun _ _ _ h => h) (Or.inl ⟨by rfl, ?_⟩) ?_ ?_
        rotate_left
        · intro w'
          go_simp
          with_reducible rfl
        rotate_left
        · aput
          rfl
        refine pure_ (i := 23) (N := some 107) (v := ?_) (a' := ?_) #[true, true, true, true, true, true, true, true, true, true, true, true, true, true, true, true, true, true, true, true, true, true, true, true, false] rfl rfl (by as_aux_lemma => kernel_rfl) (fun _ _ _ h => h) (Or.inl ⟨by rfl, ?_⟩) ?_ ?_
        rotate_left
        · intro w'
          go_simp
          with_reducible rfl
        rotate_left
        · aput
          rfl
        refine pure_ (i := 24) (N := some 108) (v := ?_) (a' := ?_) #[true, true, true, true, true, true, true, true, true, true, true, true, true, true, true, true, true, true, true, true, true, true, true, true, true] rfl rfl (by as_aux_lemma => kernel_rfl) (fun _ _ _ h => h) (Or.inl ⟨by rfl, ?_⟩) ?_ ?_
        rotate_left
        · intro w'
          go_simp
          with_reducible rfl
        rotate_left
        · aput
          rfl
        refine done_ (by as_aux_lemma => kernel_rfl) ?_
        have HB6 := Aside0.mk (below_drew1 HB5.out)
        have HW6 := Aside0.mk (below_drew1 HW5.out)
        have HX6 := Aside0.mk (blk_drew HX5.out)
        obtain ⟨W6, hW_⟩ : ∃ W', W5.drew = W' := ⟨_, rfl⟩
        rw [hW_] at HB6 HW6 HX6 ⊢
        clear hW_ HB5 HW5 HX5 x0 x1 x2 x3 x4 x5 x6 x7 l0 l1 l2 l3 l4 l5 l6 l7
        obtain ⟨x0, x1, x2, x3, x4, x5, x6, x7⟩ := cells8 HX6.out
        obtain ⟨l0, l1, l2, l3, l4, l5, l6, l7⟩ := HLF.out _ HW6.out
        have yz := blk_frozen HX6.out 7
        go_upto_region 18 with (fail)
        refine start_ (n := 11) (S := fun w' => w'.cell? ⟨g, 7, none⟩ = some (.string y7) ∧ w'.cell? ⟨(ad.add (i * 8)).block, (ad.add (i * 8)).off + 7, none⟩ = some (.string y7)) (ds := [10]) #[false, false, false, false, false, false, false, false, false, false, false] (by as_aux_lemma => kernel_rfl) rfl rfl ⟨x7, l7⟩ (fun hHeld => ?_)
        refine pure_ (i := 0) (N := some 109) (v := ?_) (a' := ?_) #[true, false, false, false, false, false, false, false, false, false, false] rfl rfl (by as_aux_lemma => kernel_rfl) (fun _ _ _ h => h) (Or.inl ⟨by rfl, ?_⟩) ?_ ?_
        rotate_left
        · intro w'
          go_simp
          with_reducible rfl
        rotate_left
        · aput
          rfl
        refine take_ (i := 1) (N := some 110) (v := ?_) (a' := ?_) #[true, true, false, false, false, false, false, false, false, false, false] rfl rfl (by as_aux_lemma => kernel_rfl) (fun _ _ _ h => h) (Or.inl ⟨by rfl, ?_⟩) hHeld ?_ ?_
        rotate_left
        · rintro w' ⟨s0, s1⟩
          go_simp
          with_reducible rfl
        rotate_left
        · aput
          rfl
        refine pure_ (i := 2) (N := some 111) (v := ?_) (a' := ?_) #[true, true, true, false, false, false, false, false, false, false, false] rfl rfl (by as_aux_lemma => kernel_rfl) (fun _ _ _ h => h) (Or.inl ⟨by rfl, ?_⟩) ?_ ?_
        rotate_left
        · intro w'
          go_simp
          with_reducible rfl
        rotate_left
        · aput
          rfl
        refine pure_ (i := 3) (N := some 112) (v := ?_) (a' := ?_) #[true, true, true, true, false, false, false, false, false, false, false] rfl rfl (by as_aux_lemma => kernel_rfl) (fun _ _ _ h => h) (Or.inl ⟨by rfl, ?_⟩) ?_ ?_
        rotate_left
        · intro w'
          go_simp
          with_reducible rfl
        rotate_left
        · aput
          rfl
        refine pure_ (i := 4) (N := some 113) (v := ?_) (a' := ?_) #[true, true, true, true, true, false, false, false, false, false, false] rfl rfl (by as_aux_lemma => kernel_rfl) (fun _ _ _ h => h) (Or.inl ⟨by rfl, ?_⟩) ?_ ?_
        rotate_left
        · intro w'
          go_simp
          with_reducible rfl
        rotate_left
        · aput
          rfl
        refine pure_ (i := 5) (N := some 114) (v := ?_) (a' := ?_) #[true, true, true, true, true, true, false, false, false, false, false] rfl rfl (by as_aux_lemma => kernel_rfl) (fun _ _ _ h => h) (Or.inl ⟨by rfl, ?_⟩) ?_ ?_
        rotate_left
        · intro w'
          go_simp
          with_reducible rfl
        rotate_left
        · aput
          rfl
        refine take_ (i := 6) (N := some 115) (v := ?_) (a' := ?_) #[true, true, true, true, true, true, true, false, false, false, false] rfl rfl (by as_aux_lemma => kernel_rfl) (fun _ _ _ h => h) (Or.inl ⟨by rfl, ?_⟩) hHeld ?_ ?_
        rotate_left
        · rintro w' ⟨s0, s1⟩
          go_simp
          with_reducible rfl
        rotate_left
        · aput
          rfl
        refine pure_ (i := 7) (N := some 116) (v := ?_) (a' := ?_) #[true, true, true, true, true, true, true, true, false, false, false] rfl rfl (by as_aux_lemma => kernel_rfl) (fun _ _ _ h => h) (Or.inl ⟨by rfl, ?_⟩) ?_ ?_
        rotate_left
        · intro w'
          go_simp
          with_reducible rfl
        rotate_left
        · aput
          rfl
        refine pure_ (i := 8) (N := some 117) (v := ?_) (a' := ?_) #[true, true, true, true, true, true, true, true, true, false, false] rfl rfl (by as_aux_lemma => kernel_rfl) (fun _ _ _ h => h) (Or.inl ⟨by rfl, ?_⟩) ?_ ?_
        rotate_left
        · intro w'
          go_simp
          with_reducible rfl
        rotate_left
        · aput
          rfl
        refine pure_ (i := 9) (N := some 118) (v := ?_) (a' := ?_) #[true, true, true, true, true, true, true, true, true, true, false] rfl rfl (by as_aux_lemma => kernel_rfl) (fun _ _ _ h => h) (Or.inl ⟨by rfl, ?_⟩) ?_ ?_
        rotate_left
        · intro w'
          go_simp
          with_reducible rfl
        rotate_left
        · aput
          rfl
        refine last_ (i := 10) (N := none) #[true, true, true, true, true, true, true, true, true, true, true] rfl rfl (by as_aux_lemma => kernel_rfl) (by decide) (fun K hK => ?_)
        rw [if_pos (by rfl)]
        go_simp
        refine hK.out _ _ ?_
        clear hK K
        refine done_ (by as_aux_lemma => kernel_rfl) ?_
        clear yz
        have HB7 := Aside0.mk (below_drew1 (HB6.out.setCell (p := ⟨g, 7, none⟩) HGE.out (.string y7)))
        have HW7 := Aside0.mk (below_drew1 (HW6.out.setCell (p := ⟨g, 7, none⟩) (Nat.le_refl g) (.string y7)))
        have HX7 := Aside0.mk (blk_drew (blk_put HX6.out 7 (.string y7) (cs' := #[.string y0, .string y1, .int .u8 y2, .int .i64 y3, .int .i64 y4, .int .i64 y5, .int .i64 y6, .string y7]) rfl))
        obtain ⟨W7, hW_⟩ : ∃ W', (W6.setCell ⟨g, 7, none⟩ (.string y7)).drew = W' := ⟨_, rfl⟩
        rw [hW_] at HB7 HW7 HX7 ⊢
        clear hW_ HB6 HW6 HX6 x0 x1 x2 x3 x4 x5 x6 x7 l0 l1 l2 l3 l4 l5 l6 l7
        obtain ⟨x0, x1, x2, x3, x4, x5, x6, x7⟩ := cells8 HX7.out
        obtain ⟨l0, l1, l2, l3, l4, l5, l6, l7⟩ := HLF.out _ HW7.out
        go_upto_region 19 with (fail)
        refine start_ (n := 6) (S := fun w' => w'.cell? ⟨g, 0, none⟩ = some (.string y0) ∧ w'.cell? ⟨g, 1, none⟩ = some (.string y1) ∧ w'.cell? ⟨g, 2, none⟩ = some (.int .u8 y2) ∧ w'.cell? ⟨g, 3, none⟩ = some (.int .i64 y3) ∧ w'.cell? ⟨g, 4, none⟩ = some (.int .i64 y4) ∧ w'.cell? ⟨g, 5, none⟩ = some (.int .i64 y5) ∧ w'.cell? ⟨g, 6, none⟩ = some (.int .i64 y6) ∧ w'.cell? ⟨g, 7, none⟩ = some (.string y7) ∧ w'.cell? (ad.add (i * 8)) = some (.string y0) ∧ w'.cell? ⟨(ad.add (i * 8)).block, (ad.add (i * 8)).off + 1, none⟩ = some (.string y1) ∧ w'.cell? ⟨(ad.add (i * 8)).block, (ad.add (i * 8)).off + 2, none⟩ = some (.int .u8 y2) ∧ w'.cell? ⟨(ad.add (i * 8)).block, (ad.add (i * 8)).off + 3, none⟩ = some (.int .i64 y3) ∧ w'.cell? ⟨(ad.add (i * 8)).block, (ad.add (i * 8)).off + 4, none⟩ = some (.int .i64 y4) ∧ w'.cell? ⟨(ad.add (i * 8)).block, (ad.add (i * 8)).off + 5, none⟩ = some (.int .i64 y5) ∧ w'.cell? ⟨(ad.add (i * 8)).block, (ad.add (i * 8)).off + 6, none⟩ = some (.int .i64 y6) ∧ w'.cell? ⟨(ad.add (i * 8)).block, (ad.add (i * 8)).off + 7, none⟩ = some (.string y7)) (ds := []) #[false, false, false, false, false, false] (by as_aux_lemma => kernel_rfl) rfl rfl ⟨x0, x1, x2, x3, x4, x5, x6, x7, l0, l1, l2, l3, l4, l5, l6, l7⟩ (fun hHeld => ?_)
        refine pure_ (i := 0) (N := some 119) (v := ?_) (a' := ?_) #[true, false, false, false, false, false] rfl rfl (by as_aux_lemma => kernel_rfl) (fun _ _ _ h => h) (Or.inl ⟨by rfl, ?_⟩) ?_ ?_
        rotate_left
        · intro w'
          go_simp
          with_reducible rfl
        rotate_left
        · aput
          rfl
        refine pure_ (i := 1) (N := some 120) (v := ?_) (a' := ?_) #[true, true, false, false, false, false] rfl rfl (by as_aux_lemma => kernel_rfl) (fun _ _ _ h => h) (Or.inl ⟨by rfl, ?_⟩) ?_ ?_
        rotate_left
        · intro w'
          go_simp
          with_reducible rfl
        rotate_left
        · aput
          rfl
        refine pure_ (i := 2) (N := some 121) (v := ?_) (a' := ?_) #[true, true, true, false, false, false] rfl rfl (by as_aux_lemma => kernel_rfl) (fun _ _ _ h => h) (Or.inl ⟨by rfl, ?_⟩) ?_ ?_
        rotate_left
        · intro w'
          go_simp
          with_reducible rfl
        rotate_left
        · aput
          rfl
        refine take_ (i := 3) (N := some 122) (v := ?_) (a' := ?_) #[true, true, true, true, false, false] rfl rfl (by as_aux_lemma => kernel_rfl) (fun _ _ _ h => h) (Or.inl ⟨by rfl, ?_⟩) hHeld ?_ ?_
        rotate_left
        · rintro w' ⟨s0, s1, s2, s3, s4, s5, s6, s7, s8, s9, s10, s11, s12, s13, s14, s15⟩
          go_simp
          with_reducible rfl
        rotate_left
        · aput
          rfl
        refine take_ (i := 4) (N := some 123) (v := ?_) (a' := ?_) #[true, true, true, true, true, false] rfl rfl (by as_aux_lemma => kernel_rfl) (fun _ _ _ h => h) (Or.inl ⟨by rfl, ?_⟩) hHeld ?_ ?_
        rotate_left
        · rintro w' ⟨s0, s1, s2, s3, s4, s5, s6, s7, s8, s9, s10, s11, s12, s13, s14, s15⟩
          go_simp
          with_reducible rfl
        rotate_left
        · aput
          rfl
        refine pure_ (i := 5) (N := some 124) (v := ?_) (a' := ?_) #[true, true, true, true, true, true] rfl rfl (by as_aux_lemma => kernel_rfl) (fun _ _ _ h => h) (Or.inl ⟨by rfl, ?_⟩) ?_ ?_
        rotate_left
        · intro w'
          go_simp
          with_reducible rfl
        rotate_left
        · aput
          rfl
        refine done_ (by as_aux_lemma => kernel_rfl) ?_
        have HB8 := Aside0.mk (below_drew1 HB7.out)
        have HW8 := Aside0.mk (below_drew1 HW7.out)
        have HX8 := Aside0.mk (blk_drew HX7.out)
        obtain ⟨W8, hW_⟩ : ∃ W', W7.drew = W' := ⟨_, rfl⟩
        rw [hW_] at HB8 HW8 HX8 ⊢
        clear hW_ HB7 HW7 HX7 x0 x1 x2 x3 x4 x5 x6 x7 l0 l1 l2 l3 l4 l5 l6 l7
        have HU8 := Aside0.mk (Kd.C_below HUr.out (by rw [HGW.out]; exact HW8.out))
        go_wp2_with (fail)
        go_roundw
        case rel => exact ⟨i + 1, by go_num, by omega, HB8, HU8⟩
        case measure => simp [intOf]; omega
      · obtain ⟨x0, x1, x2, x3, x4, x5, x6, x7⟩ := cells8 HX5.out
        have p1 : decide ((i : Int) < (p : Int)) = false := decide_eq_false (by omega)
        have p2 : decide (i < p) = false := decide_eq_false hip
        clear hDd
        refine start_ (n := 25) (S := fun w' => w'.cell? ⟨g, 0, none⟩ = some (.string y0) ∧ w'.cell? ⟨g, 1, none⟩ = some (.string y1) ∧ w'.cell? ⟨g, 2, none⟩ = some (.int .u8 y2) ∧ w'.cell? ⟨g, 3, none⟩ = some (.int .i64 y3) ∧ w'.cell? ⟨g, 4, none⟩ = some (.int .i64 y4) ∧ w'.cell? ⟨g, 5, none⟩ = some (.int .i64 y5) ∧ w'.cell? ⟨g, 6, none⟩ = some (.int .i64 y6) ∧ w'.cell? ⟨g, 7, none⟩ = some (.string D) ∧ w'.cell? (ad.add (i * 8)) = some (.string y0) ∧ w'.cell? ⟨(ad.add (i * 8)).block, (ad.add (i * 8)).off + 1, none⟩ = some (.string y1) ∧ w'.cell? ⟨(ad.add (i * 8)).block, (ad.add (i * 8)).off + 2, none⟩ = some (.int .u8 y2) ∧ w'.cell? ⟨(ad.add (i * 8)).block, (ad.add (i * 8)).off + 3, none⟩ = some (.int .i64 y3) ∧ w'.cell? ⟨(ad.add (i * 8)).block, (ad.add (i * 8)).off + 4, none⟩ = some (.int .i64 y4) ∧ w'.cell? ⟨(ad.add (i * 8)).block, (ad.add (i * 8)).off + 5, none⟩ = some (.int .i64 y5) ∧ w'.cell? ⟨(ad.add (i * 8)).block, (ad.add (i * 8)).off + 6, none⟩ = some (.int .i64 y6) ∧ w'.cell? ⟨(ad.add (i * 8)).block, (ad.add (i * 8)).off + 7, none⟩ = some (.string y7)) (ds := []) #[false, false, false, false, false, false, false, false, false, false, false, false, false, false, false, false, false, false, false, false, false, false, false, false, false] (by as_aux_lemma => kernel_rfl) rfl rfl ⟨x0, x1, x2, x3, x4, x5, x6, x7, l0, l1, l2, l3, l4, l5, l6, l7⟩ (fun hHeld => ?_)
        refine pure_ (i := 0) (N := some 84) (v := ?_) (a' := ?_) #[true, false, false, false, false, false, false, false, false, false, false, false, false, false, false, false, false, false, false, false, false, false, false, false, false] rfl rfl (by as_aux_lemma => kernel_rfl) (fun _ _ _ h => h) (Or.inl ⟨by rfl, ?_⟩) ?_ ?_
        rotate_left
        · intro w'
          go_simp
          with_reducible rfl
        rotate_left
        · aput
          rfl
        refine pure_ (i := 1) (N := some 85) (v := ?_) (a' := ?_) #[true, true, false, false, false, false, false, false, false, false, false, false, false, false, false, false, false, false, false, false, false, false, false, false, false] rfl rfl (by as_aux_lemma => kernel_rfl) (fun _ _ _ h => h) (Or.inl ⟨by rfl, ?_⟩) ?_ ?_
        rotate_left
        · intro w'
          go_simp
          with_reducible rfl
        rotate_left
        · aput
          rfl
        refine pure_ (i := 2) (N := some 86) (v := ?_) (a' := ?_) #[true, true, true, false, false, false, false, false, false, false, false, false, false, false, false, false, false, false, false, false, false, false, false, false, false] rfl rfl (by as_aux_lemma => kernel_rfl) (fun _ _ _ h => h) (Or.inl ⟨by rfl, ?_⟩) ?_ ?_
        rotate_left
        · intro w'
          go_simp
          with_reducible rfl
        rotate_left
        · aput
          rfl
        refine pure_ (i := 3) (N := some 87) (v := ?_) (a' := ?_) #[true, true, true, true, false, false, false, false, false, false, false, false, false, false, false, false, false, false, false, false, false, false, false, false, false] rfl rfl (by as_aux_lemma => kernel_rfl) (fun _ _ _ h => h) (Or.inl ⟨by rfl, ?_⟩) ?_ ?_
        rotate_left
        · intro w'
          go_simp
          with_reducible rfl
        rotate_left
        · aput
          rfl
        refine take_ (i := 4) (N := some 88) (v := ?_) (a' := ?_) #[true, true, true, true, true, false, false, false, false, false, false, false, false, false, false, false, false, false, false, false, false, false, false, false, false] rfl rfl (by as_aux_lemma => kernel_rfl) (fun _ _ _ h => h) (Or.inl ⟨by rfl, ?_⟩) hHeld ?_ ?_
        rotate_left
        · rintro w' ⟨s0, s1, s2, s3, s4, s5, s6, s7, s8, s9, s10, s11, s12, s13, s14, s15⟩
          go_simp
          with_reducible rfl
        rotate_left
        · aput
          rfl
        refine pure_ (i := 5) (N := some 89) (v := ?_) (a' := ?_) #[true, true, true, true, true, true, false, false, false, false, false, false, false, false, false, false, false, false, false, false, false, false, false, false, false] rfl rfl (by as_aux_lemma => kernel_rfl) (fun _ _ _ h => h) (Or.inl ⟨by rfl, ?_⟩) ?_ ?_
        rotate_left
        · intro w'
          go_simp
          with_reducible rfl
        rotate_left
        · aput
          rfl
        refine pure_ (i := 6) (N := some 90) (v := ?_) (a' := ?_) #[true, true, true, true, true, true, true, false, false, false, false, false, false, false, false, false, false, false, false, false, false, false, false, false, false] rfl rfl (by as_aux_lemma => kernel_rfl) (fun _ _ _ h => h) (Or.inl ⟨by rfl, ?_⟩) ?_ ?_
        rotate_left
        · intro w'
          go_simp
          with_reducible rfl
        rotate_left
        · aput
          rfl
        refine take_ (i := 7) (N := some 91) (v := ?_) (a' := ?_) #[true, true, true, true, true, true, true, true, false, false, false, false, false, false, false, false, false, false, false, false, false, false, false, false, false] rfl rfl (by as_aux_lemma => kernel_rfl) (fun _ _ _ h => h) (Or.inl ⟨by rfl, ?_⟩) hHeld ?_ ?_
        rotate_left
        · rintro w' ⟨s0, s1, s2, s3, s4, s5, s6, s7, s8, s9, s10, s11, s12, s13, s14, s15⟩
          go_simp
          with_reducible rfl
        rotate_left
        · aput
          rfl
        refine pure_ (i := 8) (N := some 92) (v := ?_) (a' := ?_) #[true, true, true, true, true, true, true, true, true, false, false, false, false, false, false, false, false, false, false, false, false, false, false, false, false] rfl rfl (by as_aux_lemma => kernel_rfl) (fun _ _ _ h => h) (Or.inl ⟨by rfl, ?_⟩) ?_ ?_
        rotate_left
        · intro w'
          go_simp
          with_reducible rfl
        rotate_left
        · aput
          rfl
        refine pure_ (i := 9) (N := some 93) (v := ?_) (a' := ?_) #[true, true, true, true, true, true, true, true, true, true, false, false, false, false, false, false, false, false, false, false, false, false, false, false, false] rfl rfl (by as_aux_lemma => kernel_rfl) (fun _ _ _ h => h) (Or.inl ⟨by rfl, ?_⟩) ?_ ?_
        rotate_left
        · intro w'
          go_simp
          with_reducible rfl
        rotate_left
        · aput
          rfl
        refine pure_ (i := 10) (N := some 94) (v := ?_) (a' := ?_) #[true, true, true, true, true, true, true, true, true, true, true, false, false, false, false, false, false, false, false, false, false, false, false, false, false] rfl rfl (by as_aux_lemma => kernel_rfl) (fun _ _ _ h => h) (Or.inl ⟨by rfl, ?_⟩) ?_ ?_
        rotate_left
        · intro w'
          go_simp
          with_reducible rfl
        rotate_left
        · aput
          rfl
        refine pure_ (i := 11) (N := some 95) (v := ?_) (a' := ?_) #[true, true, true, true, true, true, true, true, true, true, true, true, false, false, false, false, false, false, false, false, false, false, false, false, false] rfl rfl (by as_aux_lemma => kernel_rfl) (fun _ _ _ h => h) (Or.inl ⟨by rfl, ?_⟩) ?_ ?_
        rotate_left
        · intro w'
          go_simp
          with_reducible rfl
        rotate_left
        · aput
          rfl
        refine pure_ (i := 12) (N := some 96) (v := ?_) (a' := ?_) #[true, true, true, true, true, true, true, true, true, true, true, true, true, false, false, false, false, false, false, false, false, false, false, false, false] rfl rfl (by as_aux_lemma => kernel_rfl) (fun _ _ _ h => h) (Or.inl ⟨by rfl, ?_⟩) ?_ ?_
        rotate_left
        · intro w'
          go_simp
          with_reducible rfl
        rotate_left
        · aput
          rfl
        refine pure_ (i := 13) (N := some 97) (v := ?_) (a' := ?_) #[true, true, true, true, true, true, true, true, true, true, true, true, true, true, false, false, false, false, false, false, false, false, false, false, false] rfl rfl (by as_aux_lemma => kernel_rfl) (fun _ _ _ h => h) (Or.inl ⟨by rfl, ?_⟩) ?_ ?_
        rotate_left
        · intro w'
          go_simp
          with_reducible rfl
        rotate_left
        · aput
          rfl
        refine pure_ (i := 14) (N := some 98) (v := ?_) (a' := ?_) #[true, true, true, true, true, true, true, true, true, true, true, true, true, true, true, false, false, false, false, false, false, false, false, false, false] rfl rfl (by as_aux_lemma => kernel_rfl) (fun _ _ _ h => h) (Or.inl ⟨by rfl, ?_⟩) ?_ ?_
        rotate_left
        · intro w'
          go_simp
          with_reducible rfl
        rotate_left
        · aput
          rfl
        refine pure_ (i := 15) (N := some 99) (v := ?_) (a' := ?_) #[true, true, true, true, true, true, true, true, true, true, true, true, true, true, true, true, false, false, false, false, false, false, false, false, false] rfl rfl (by as_aux_lemma => kernel_rfl) (fun _ _ _ h => h) (Or.inl ⟨by rfl, ?_⟩) ?_ ?_
        rotate_left
        · intro w'
          go_simp
          with_reducible rfl
        rotate_left
        · aput
          rfl
        refine pure_ (i := 16) (N := some 100) (v := ?_) (a' := ?_) #[true, true, true, true, true, true, true, true, true, true, true, true, true, true, true, true, true, false, false, false, false, false, false, false, false] rfl rfl (by as_aux_lemma => kernel_rfl) (fun _ _ _ h => h) (Or.inl ⟨by rfl, ?_⟩) ?_ ?_
        rotate_left
        · intro w'
          go_simp
          with_reducible rfl
        rotate_left
        · aput
          rfl
        refine pure_ (i := 17) (N := some 101) (v := undef) (a' := ?_) #[true, true, true, true, true, true, true, true, true, true, true, true, true, true, true, true, true, true, false, false, false, false, false, false, false] rfl rfl (by as_aux_lemma => kernel_rfl) (fun _ _ _ h => h) (Or.inr ⟨by rfl, rfl⟩) ?_ ?_
        rotate_left
        · aput
          rfl
        refine pure_ (i := 18) (N := some 102) (v := undef) (a' := ?_) #[true, true, true, true, true, true, true, true, true, true, true, true, true, true, true, true, true, true, true, false, false, false, false, false, false] rfl rfl (by as_aux_lemma => kernel_rfl) (fun _ _ _ h => h) (Or.inr ⟨by rfl, rfl⟩) ?_ ?_
        rotate_left
        · aput
          rfl
        refine pure_ (i := 19) (N := some 103) (v := undef) (a' := ?_) #[true, true, true, true, true, true, true, true, true, true, true, true, true, true, true, true, true, true, true, true, false, false, false, false, false] rfl rfl (by as_aux_lemma => kernel_rfl) (fun _ _ _ h => h) (Or.inr ⟨by rfl, rfl⟩) ?_ ?_
        rotate_left
        · aput
          rfl
        refine pure_ (i := 20) (N := some 104) (v := undef) (a' := ?_) #[true, true, true, true, true, true, true, true, true, true, true, true, true, true, true, true, true, true, true, true, true, false, false, false, false] rfl rfl (by as_aux_lemma => kernel_rfl) (fun _ _ _ h => h) (Or.inr ⟨by rfl, rfl⟩) ?_ ?_
        rotate_left
        · aput
          rfl
        refine pure_ (i := 21) (N := some 105) (v := undef) (a' := ?_) #[true, true, true, true, true, true, true, true, true, true, true, true, true, true, true, true, true, true, true, true, true, true, false, false, false] rfl rfl (by as_aux_lemma => kernel_rfl) (fun _ _ _ h => h) (Or.inr ⟨by rfl, rfl⟩) ?_ ?_
        rotate_left
        · aput
          rfl
        refine pure_ (i := 22) (N := some 106) (v := undef) (a' := ?_) #[true, true, true, true, true, true, true, true, true, true, true, true, true, true, true, true, true, true, true, true, true, true, true, false, false] rfl rfl (by as_aux_lemma => kernel_rfl) (fun _ _ _ h => h) (Or.inr ⟨by rfl, rfl⟩) ?_ ?_
        rotate_left
        · aput
          rfl
        refine pure_ (i := 23) (N := some 107) (v := ?_) (a' := ?_) #[true, true, true, true, true, true, true, true, true, true, true, true, true, true, true, true, true, true, true, true, true, true, true, true, false] rfl rfl (by as_aux_lemma => kernel_rfl) (fun _ _ _ h => h) (Or.inl ⟨by rfl, ?_⟩) ?_ ?_
        rotate_left
        · intro w'
          go_simp
          with_reducible rfl
        rotate_left
        · aput
          rfl
        refine pure_ (i := 24) (N := some 108) (v := ?_) (a' := ?_) #[true, true, true, true, true, true, true, true, true, true, true, true, true, true, true, true, true, true, true, true, true, true, true, true, true] rfl rfl (by as_aux_lemma => kernel_rfl) (fun _ _ _ h => h) (Or.inl ⟨by rfl, ?_⟩) ?_ ?_
        rotate_left
        · intro w'
          go_simp
          with_reducible rfl
        rotate_left
        · aput
          rfl
        refine done_ (by as_aux_lemma => kernel_rfl) ?_
        have HB6 := Aside0.mk (below_drew1 HB5.out)
        have HW6 := Aside0.mk (below_drew1 HW5.out)
        have HX6 := Aside0.mk (blk_drew HX5.out)
        obtain ⟨W6, hW_⟩ : ∃ W', W5.drew = W' := ⟨_, rfl⟩
        rw [hW_] at HB6 HW6 HX6 ⊢
        clear hW_ HB5 HW5 HX5 x0 x1 x2 x3 x4 x5 x6 x7 l0 l1 l2 l3 l4 l5 l6 l7
        obtain ⟨x0, x1, x2, x3, x4, x5, x6, x7⟩ := cells8 HX6.out
        obtain ⟨l0, l1, l2, l3, l4, l5, l6, l7⟩ := HLF.out _ HW6.out
        have yz := blk_frozen HX6.out 7
        go_upto_region 18 with (fail)
        refine start_ (n := 11) (S := fun w' => w'.cell? ⟨g, 7, none⟩ = some (.string D) ∧ w'.cell? ⟨(ad.add (i * 8)).block, (ad.add (i * 8)).off + 7, none⟩ = some (.string y7)) (ds := [10]) #[false, false, false, false, false, false, false, false, false, false, false] (by as_aux_lemma => kernel_rfl) rfl rfl ⟨x7, l7⟩ (fun hHeld => ?_)
        refine pure_ (i := 0) (N := some 109) (v := ?_) (a' := ?_) #[true, false, false, false, false, false, false, false, false, false, false] rfl rfl (by as_aux_lemma => kernel_rfl) (fun _ _ _ h => h) (Or.inl ⟨by rfl, ?_⟩) ?_ ?_
        rotate_left
        · intro w'
          go_simp
          with_reducible rfl
        rotate_left
        · aput
          rfl
        refine take_ (i := 1) (N := some 110) (v := ?_) (a' := ?_) #[true, true, false, false, false, false, false, false, false, false, false] rfl rfl (by as_aux_lemma => kernel_rfl) (fun _ _ _ h => h) (Or.inl ⟨by rfl, ?_⟩) hHeld ?_ ?_
        rotate_left
        · rintro w' ⟨s0, s1⟩
          go_simp
          with_reducible rfl
        rotate_left
        · aput
          rfl
        refine pure_ (i := 2) (N := some 111) (v := ?_) (a' := ?_) #[true, true, true, false, false, false, false, false, false, false, false] rfl rfl (by as_aux_lemma => kernel_rfl) (fun _ _ _ h => h) (Or.inl ⟨by rfl, ?_⟩) ?_ ?_
        rotate_left
        · intro w'
          go_simp
          with_reducible rfl
        rotate_left
        · aput
          rfl
        refine pure_ (i := 3) (N := some 112) (v := ?_) (a' := ?_) #[true, true, true, true, false, false, false, false, false, false, false] rfl rfl (by as_aux_lemma => kernel_rfl) (fun _ _ _ h => h) (Or.inl ⟨by rfl, ?_⟩) ?_ ?_
        rotate_left
        · intro w'
          go_simp
          with_reducible rfl
        rotate_left
        · aput
          rfl
        refine pure_ (i := 4) (N := some 113) (v := ?_) (a' := ?_) #[true, true, true, true, true, false, false, false, false, false, false] rfl rfl (by as_aux_lemma => kernel_rfl) (fun _ _ _ h => h) (Or.inl ⟨by rfl, ?_⟩) ?_ ?_
        rotate_left
        · intro w'
          go_simp
          with_reducible rfl
        rotate_left
        · aput
          rfl
        refine pure_ (i := 5) (N := some 114) (v := ?_) (a' := ?_) #[true, true, true, true, true, true, false, false, false, false, false] rfl rfl (by as_aux_lemma => kernel_rfl) (fun _ _ _ h => h) (Or.inl ⟨by rfl, ?_⟩) ?_ ?_
        rotate_left
        · intro w'
          go_simp
          with_reducible rfl
        rotate_left
        · aput
          rfl
        refine take_ (i := 6) (N := some 115) (v := ?_) (a' := ?_) #[true, true, true, true, true, true, true, false, false, false, false] rfl rfl (by as_aux_lemma => kernel_rfl) (fun _ _ _ h => h) (Or.inl ⟨by rfl, ?_⟩) hHeld ?_ ?_
        rotate_left
        · rintro w' ⟨s0, s1⟩
          go_simp
          with_reducible rfl
        rotate_left
        · aput
          rfl
        refine pure_ (i := 7) (N := some 116) (v := ?_) (a' := ?_) #[true, true, true, true, true, true, true, true, false, false, false] rfl rfl (by as_aux_lemma => kernel_rfl) (fun _ _ _ h => h) (Or.inl ⟨by rfl, ?_⟩) ?_ ?_
        rotate_left
        · intro w'
          go_simp
          with_reducible rfl
        rotate_left
        · aput
          rfl
        refine pure_ (i := 8) (N := some 117) (v := ?_) (a' := ?_) #[true, true, true, true, true, true, true, true, true, false, false] rfl rfl (by as_aux_lemma => kernel_rfl) (fun _ _ _ h => h) (Or.inl ⟨by rfl, ?_⟩) ?_ ?_
        rotate_left
        · intro w'
          go_simp
          with_reducible rfl
        rotate_left
        · aput
          rfl
        refine pure_ (i := 9) (N := some 118) (v := ?_) (a' := ?_) #[true, true, true, true, true, true, true, true, true, true, false] rfl rfl (by as_aux_lemma => kernel_rfl) (fun _ _ _ h => h) (Or.inl ⟨by rfl, ?_⟩) ?_ ?_
        rotate_left
        · intro w'
          go_simp
          with_reducible rfl
        rotate_left
        · aput
          rfl
        refine last_ (i := 10) (N := none) #[true, true, true, true, true, true, true, true, true, true, true] rfl rfl (by as_aux_lemma => kernel_rfl) (by decide) (fun K hK => ?_)
        rw [if_pos (by rfl)]
        go_simp
        refine hK.out _ _ ?_
        clear hK K
        refine done_ (by as_aux_lemma => kernel_rfl) ?_
        clear yz
        have HB7 := Aside0.mk (below_drew1 (HB6.out.setCell (p := ⟨g, 7, none⟩) HGE.out (.string y7)))
        have HW7 := Aside0.mk (below_drew1 (HW6.out.setCell (p := ⟨g, 7, none⟩) (Nat.le_refl g) (.string y7)))
        have HX7 := Aside0.mk (blk_drew (blk_put HX6.out 7 (.string y7) (cs' := #[.string y0, .string y1, .int .u8 y2, .int .i64 y3, .int .i64 y4, .int .i64 y5, .int .i64 y6, .string y7]) rfl))
        obtain ⟨W7, hW_⟩ : ∃ W', (W6.setCell ⟨g, 7, none⟩ (.string y7)).drew = W' := ⟨_, rfl⟩
        rw [hW_] at HB7 HW7 HX7 ⊢
        clear hW_ HB6 HW6 HX6 x0 x1 x2 x3 x4 x5 x6 x7 l0 l1 l2 l3 l4 l5 l6 l7
        obtain ⟨x0, x1, x2, x3, x4, x5, x6, x7⟩ := cells8 HX7.out
        obtain ⟨l0, l1, l2, l3, l4, l5, l6, l7⟩ := HLF.out _ HW7.out
        go_upto_region 19 with (fail)
        refine start_ (n := 6) (S := fun w' => w'.cell? ⟨g, 0, none⟩ = some (.string y0) ∧ w'.cell? ⟨g, 1, none⟩ = some (.string y1) ∧ w'.cell? ⟨g, 2, none⟩ = some (.int .u8 y2) ∧ w'.cell? ⟨g, 3, none⟩ = some (.int .i64 y3) ∧ w'.cell? ⟨g, 4, none⟩ = some (.int .i64 y4) ∧ w'.cell? ⟨g, 5, none⟩ = some (.int .i64 y5) ∧ w'.cell? ⟨g, 6, none⟩ = some (.int .i64 y6) ∧ w'.cell? ⟨g, 7, none⟩ = some (.string y7) ∧ w'.cell? (ad.add (i * 8)) = some (.string y0) ∧ w'.cell? ⟨(ad.add (i * 8)).block, (ad.add (i * 8)).off + 1, none⟩ = some (.string y1) ∧ w'.cell? ⟨(ad.add (i * 8)).block, (ad.add (i * 8)).off + 2, none⟩ = some (.int .u8 y2) ∧ w'.cell? ⟨(ad.add (i * 8)).block, (ad.add (i * 8)).off + 3, none⟩ = some (.int .i64 y3) ∧ w'.cell? ⟨(ad.add (i * 8)).block, (ad.add (i * 8)).off + 4, none⟩ = some (.int .i64 y4) ∧ w'.cell? ⟨(ad.add (i * 8)).block, (ad.add (i * 8)).off + 5, none⟩ = some (.int .i64 y5) ∧ w'.cell? ⟨(ad.add (i * 8)).block, (ad.add (i * 8)).off + 6, none⟩ = some (.int .i64 y6) ∧ w'.cell? ⟨(ad.add (i * 8)).block, (ad.add (i * 8)).off + 7, none⟩ = some (.string y7)) (ds := []) #[false, false, false, false, false, false] (by as_aux_lemma => kernel_rfl) rfl rfl ⟨x0, x1, x2, x3, x4, x5, x6, x7, l0, l1, l2, l3, l4, l5, l6, l7⟩ (fun hHeld => ?_)
        refine pure_ (i := 0) (N := some 119) (v := ?_) (a' := ?_) #[true, false, false, false, false, false] rfl rfl (by as_aux_lemma => kernel_rfl) (fun _ _ _ h => h) (Or.inl ⟨by rfl, ?_⟩) ?_ ?_
        rotate_left
        · intro w'
          go_simp
          with_reducible rfl
        rotate_left
        · aput
          rfl
        refine pure_ (i := 1) (N := some 120) (v := ?_) (a' := ?_) #[true, true, false, false, false, false] rfl rfl (by as_aux_lemma => kernel_rfl) (fun _ _ _ h => h) (Or.inl ⟨by rfl, ?_⟩) ?_ ?_
        rotate_left
        · intro w'
          go_simp
          with_reducible rfl
        rotate_left
        · aput
          rfl
        refine pure_ (i := 2) (N := some 121) (v := ?_) (a' := ?_) #[true, true, true, false, false, false] rfl rfl (by as_aux_lemma => kernel_rfl) (fun _ _ _ h => h) (Or.inl ⟨by rfl, ?_⟩) ?_ ?_
        rotate_left
        · intro w'
          go_simp
          with_reducible rfl
        rotate_left
        · aput
          rfl
        refine take_ (i := 3) (N := some 122) (v := ?_) (a' := ?_) #[true, true, true, true, false, false] rfl rfl (by as_aux_lemma => kernel_rfl) (fun _ _ _ h => h) (Or.inl ⟨by rfl, ?_⟩) hHeld ?_ ?_
        rotate_left
        · rintro w' ⟨s0, s1, s2, s3, s4, s5, s6, s7, s8, s9, s10, s11, s12, s13, s14, s15⟩
          go_simp
          with_reducible rfl
        rotate_left
        · aput
          rfl
        refine take_ (i := 4) (N := some 123) (v := ?_) (a' := ?_) #[true, true, true, true, true, false] rfl rfl (by as_aux_lemma => kernel_rfl) (fun _ _ _ h => h) (Or.inl ⟨by rfl, ?_⟩) hHeld ?_ ?_
        rotate_left
        · rintro w' ⟨s0, s1, s2, s3, s4, s5, s6, s7, s8, s9, s10, s11, s12, s13, s14, s15⟩
          go_simp
          with_reducible rfl
        rotate_left
        · aput
          rfl
        refine pure_ (i := 5) (N := some 124) (v := ?_) (a' := ?_) #[true, true, true, true, true, true] rfl rfl (by as_aux_lemma => kernel_rfl) (fun _ _ _ h => h) (Or.inl ⟨by rfl, ?_⟩) ?_ ?_
        rotate_left
        · intro w'
          go_simp
          with_reducible rfl
        rotate_left
        · aput
          rfl
        refine done_ (by as_aux_lemma => kernel_rfl) ?_
        have HB8 := Aside0.mk (below_drew1 HB7.out)
        have HW8 := Aside0.mk (below_drew1 HW7.out)
        have HX8 := Aside0.mk (blk_drew HX7.out)
        obtain ⟨W8, hW_⟩ : ∃ W', W7.drew = W' := ⟨_, rfl⟩
        rw [hW_] at HB8 HW8 HX8 ⊢
        clear hW_ HB7 HW7 HX7 x0 x1 x2 x3 x4 x5 x6 x7 l0 l1 l2 l3 l4 l5 l6 l7
        have HU8 := Aside0.mk (Kd.C_below HUr.out (by rw [HGW.out]; exact HW8.out))
        go_wp2_with (fail)
        go_roundw
        case rel => exact ⟨i + 1, by go_num, by omega, HB8, HU8⟩
        case measure => simp [intOf]; omega
    · obtain rfl : i = uL := by omega
      have hi1 : decide ((i : Int) < (i : Int)) = false := decide_eq_false (by omega)
      clear hlt
      go_wp2_with (fail)
      go_ret
      exact ⟨rfl, HBr.out⟩
theorem reelkeeperlaw10_ReadCut.calls (k : Nat) (A0 : Option Addr) (c0 : Nat) (l0 : List Nd) (a1 : Int) (r : Bool) (w : World) (hC0 : Kd.C kNode w A0 l0.length l0) (hc0 : l0.length ≤ c0) (h : reelkeeperlaw10_ReadCut.f k l0 a1 = some r) :
    Calls Tryz.prog 5 #[.slice A0 l0.length c0, .int .i64 a1] w fun e w' => e = .returned (.bool r) ∧ Below w.heap.size w w' := by
  obtain rfl : true = r := Option.some.inj h
  exact read_cut.at_ A0 c0 l0 a1 w hC0 hc0
end Go.Proofs.YtpedagpcblnnhaaGreat.X
