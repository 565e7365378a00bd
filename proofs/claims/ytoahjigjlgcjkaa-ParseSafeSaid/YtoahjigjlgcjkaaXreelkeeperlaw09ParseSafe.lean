import Derived.Test.YtoahjigjlgcjkaaXK
import Derived.Test.YtoahjigjlgcjkaaXGhead
import Derived.Test.YtoahjigjlgcjkaaXGpa
import Derived.Test.YtoahjigjlgcjkaaXGpath
import Derived.Test.YtoahjigjlgcjkaaXGpj
import Derived.Test.YtoahjigjlgcjkaaXGpk
import Derived.Test.YtoahjigjlgcjkaaXGpmay
import Derived.Test.YtoahjigjlgcjkaaXGtree
import Derived.Test.YtoahjigjlgcjkaaXreelkeeperlaw03Few
import Derived.Test.YtoahjigjlgcjkaaYAll
import Derived.Test.YtoahjigjlgcjkaaP04g
import Derived.Test.YtoahjigjlgcjkaaP09a
import Derived.Test.YtoahjigjlgcjkaaP09s
import Derived.Test.YtoahjigjlgcjkaaP15o
import Derived.Test.YtoahjigjlgcjkaaPGA
import Derived.Test.YtoahjigjlgcjkaaPGE
import Derived.Deep.RegionHeld3
import Derived.Laws.EntriesVeiled
import Derived.WalkSpells
namespace Go.Proofs.Ytoahjigjlgcjkaa.X
open Go.RowKit Go.Proofs.YtoahjigjlgcjkaaW.PrintWords Go.Proofs.YtoahjigjlgcjkaaW.PrintLast Go.Proofs.YtoahjigjlgcjkaaW.PrintMore
attribute [local go_sem] max2_int min2_int max_two min_two
set_option linter.unusedVariables false
set_option linter.unusedSimpArgs false

open Go.Proofs.YtoahjigjlgcjkaaY
set_option maxRecDepth 100000
theorem ev_cells {w : World} {A : Option Addr} {n : Nat} {t : List Evt} (h : Kd.C k39 w A n t) {i : Nat} (hi : i < n) (x : Evt) (hx : t[i]? = some x) : ∃ ad, A = some ad ∧ w.cell? (ad.add (i * 10)) = some (.int .i64 x.f0) ∧ w.cell? ⟨(ad.add (i * 10)).block, (ad.add (i * 10)).off + 1, none⟩ = some (.string x.f1.f0) ∧ w.cell? ⟨(ad.add (i * 10)).block, (ad.add (i * 10)).off + 2, none⟩ = some (.string x.f1.f1) ∧ w.cell? ⟨(ad.add (i * 10)).block, (ad.add (i * 10)).off + 3, none⟩ = some (.int .u8 x.f1.f2) ∧ w.cell? ⟨(ad.add (i * 10)).block, (ad.add (i * 10)).off + 4, none⟩ = some (.int .i64 x.f1.f3) ∧ w.cell? ⟨(ad.add (i * 10)).block, (ad.add (i * 10)).off + 5, none⟩ = some (.int .i64 x.f1.f4) ∧ w.cell? ⟨(ad.add (i * 10)).block, (ad.add (i * 10)).off + 6, none⟩ = some (.int .i64 x.f1.f5) ∧ w.cell? ⟨(ad.add (i * 10)).block, (ad.add (i * 10)).off + 7, none⟩ = some (.int .i64 x.f1.f6) ∧ w.cell? ⟨(ad.add (i * 10)).block, (ad.add (i * 10)).off + 8, none⟩ = some (.string x.f1.f7) ∧ w.cell? ⟨(ad.add (i * 10)).block, (ad.add (i * 10)).off + 9, none⟩ = some (.string x.f2) := by
  have h1 := at_T39 h (i : Int) (by omega) (by omega)
  have e : rd_T39 t (i : Int) = x := by unfold rd_T39; rw [Int.toNat_natCast, List.getD_eq_getElem?_getD, hx]; rfl
  rw [e, Int.toNat_natCast] at h1
  exact h1
def reelkeeperlaw09_ParseSafe.f (k : Nat) (s : Pst) (l : List (List Int)) : Option Bool := some true
theorem ParseSafe_told (s : Pst) (l : List (List Int)) : ∃ k, reelkeeperlaw09_ParseSafe.f k s l = some true := ⟨0, rfl⟩
set_option maxHeartbeats 3200000 in
theorem parse_safe.at_ (s : Pst) (A : Option Addr) (c : Nat) (L : List (List Int)) (w : World) (hC : Kd.C (Kd.slice 5 (Kd.int .u8)) w A L.length L) (hc : L.length ≤ c) (hby : ∀ x ∈ L, ∀ y ∈ x, 0 ≤ y ∧ y ≤ 255) :
    Calls Try.prog 4 #[.agg #[.int .i64 s.f0, .string s.f1.f0, .string s.f1.f1, .int .u8 s.f1.f2, .int .i64 s.f1.f3, .int .i64 s.f1.f4, .int .i64 s.f1.f5, .int .i64 s.f1.f6, .string s.f1.f7, .int .i64 s.f2, .int .i64 s.f3, .string s.f4, .string s.f5, .string s.f6], .slice A L.length c] w fun e w' => e = .returned (.bool true) ∧ Below w.heap.size w w' := by
  have HC := Aside0.mk hC
  have hup := fun W => awake9.at_ W
  have hfew := fun W => few9.at_ s W
  obtain ⟨b, hev, hb60⟩ := few3_ev L
  obtain ⟨k3, hk3⟩ := Ev.rounds hev
  have hf3 := fun W (hC : Kd.C (Kd.slice 5 (Kd.int .u8)) W A L.length L) => reelkeeperlaw03_Few.calls k3 A c L b W hC hc hk3
  have HB0 := Aside0.mk (below_alloc (Below.refl w.heap.size w) (.cells #[.int .i64 s.f0, .string s.f1.f0, .string s.f1.f1, .int .u8 s.f1.f2, .int .i64 s.f1.f3, .int .i64 s.f1.f4, .int .i64 s.f1.f5, .int .i64 s.f1.f6, .string s.f1.f7, .int .i64 s.f2, .int .i64 s.f3, .string s.f4, .string s.f5, .string s.f6] 25))
  have HS0 := Aside0.mk (heap_alloc_new w (.cells #[.int .i64 s.f0, .string s.f1.f0, .string s.f1.f1, .int .u8 s.f1.f2, .int .i64 s.f1.f3, .int .i64 s.f1.f4, .int .i64 s.f1.f5, .int .i64 s.f1.f6, .string s.f1.f7, .int .i64 s.f2, .int .i64 s.f3, .string s.f4, .string s.f5, .string s.f6] 25))
  obtain ⟨z0_0, z1_0, z2_0, z3_0, z4_0, z5_0, z6_0, z7_0, z8_0, z9_0, z10_0, z11_0, z12_0, z13_0⟩ := cells14 HS0.out
  clear hC hev hk3
  cases hf : fewS s with
  | false =>
    rw [hf] at hfew
    clear hf hb60
    go_enter Try.func4, Try.ntmps4
    go_wp2_with (first | (go_at_call 10; refine (hup _).mono ?_; rintro e_ w1 ⟨rfl, hb_⟩; have HB1 := Aside0.mk (below_step HB0.out hb_); have HS1 := Aside0.mk (blk_below HS0.out hb_); clear hb_; obtain ⟨z0_1, z1_1, z2_1, z3_1, z4_1, z5_1, z6_1, z7_1, z8_1, z9_1, z10_1, z11_1, z12_1, z13_1⟩ := cells14 HS1.out) | (go_at_call 11; refine (hfew _).mono ?_; rintro e_ w2 ⟨rfl, hb_⟩; have HB2 := Aside0.mk (below_step HB1.out hb_); have HS2 := Aside0.mk (blk_below HS1.out hb_); clear hb_ HB1 HS1 z0_1 z1_1 z2_1 z3_1 z4_1 z5_1 z6_1 z7_1 z8_1 z9_1 z10_1 z11_1 z12_1 z13_1; obtain ⟨z0_2, z1_2, z2_2, z3_2, z4_2, z5_2, z6_2, z7_2, z8_2, z9_2, z10_2, z11_2, z12_2, z13_2⟩ := cells14 HS2.out) | (go_at_call 14; refine (hf3 _ (Kd.C_below HC.out HB2.out)).mono ?_; rintro e_ w3 ⟨rfl, hd_⟩; have hb_ := Drawn0.below hd_; have HB3 := Aside0.mk (below_step HB2.out hb_); have HS3 := Aside0.mk (blk_below HS2.out hb_); clear hd_ hb_ HB2 HS2 z0_2 z1_2 z2_2 z3_2 z4_2 z5_2 z6_2 z7_2 z8_2 z9_2 z10_2 z11_2 z12_2 z13_2; obtain ⟨z0_3, z1_3, z2_3, z3_3, z4_3, z5_3, z6_3, z7_3, z8_3, z9_3, z10_3, z11_3, z12_3, z13_3⟩ := cells14 HS3.out))
    go_ret
    exact ⟨rfl, HB3.out⟩
  | true =>
  rw [hf] at hfew
  have hok := few_st hf
  clear hf
  cases hb : b with
  | false =>
    rw [hb] at hf3
    clear hb hb60
    go_enter Try.func4, Try.ntmps4
    go_wp2_with (first | (go_at_call 10; refine (hup _).mono ?_; rintro e_ w1 ⟨rfl, hb_⟩; have HB1 := Aside0.mk (below_step HB0.out hb_); have HS1 := Aside0.mk (blk_below HS0.out hb_); clear hb_; obtain ⟨z0_1, z1_1, z2_1, z3_1, z4_1, z5_1, z6_1, z7_1, z8_1, z9_1, z10_1, z11_1, z12_1, z13_1⟩ := cells14 HS1.out) | (go_at_call 11; refine (hfew _).mono ?_; rintro e_ w2 ⟨rfl, hb_⟩; have HB2 := Aside0.mk (below_step HB1.out hb_); have HS2 := Aside0.mk (blk_below HS1.out hb_); clear hb_ HB1 HS1 z0_1 z1_1 z2_1 z3_1 z4_1 z5_1 z6_1 z7_1 z8_1 z9_1 z10_1 z11_1 z12_1 z13_1; obtain ⟨z0_2, z1_2, z2_2, z3_2, z4_2, z5_2, z6_2, z7_2, z8_2, z9_2, z10_2, z11_2, z12_2, z13_2⟩ := cells14 HS2.out) | (go_at_call 14; refine (hf3 _ (Kd.C_below HC.out HB2.out)).mono ?_; rintro e_ w3 ⟨rfl, hd_⟩; have hb_ := Drawn0.below hd_; have HB3 := Aside0.mk (below_step HB2.out hb_); have HS3 := Aside0.mk (blk_below HS2.out hb_); clear hd_ hb_ HB2 HS2 z0_2 z1_2 z2_2 z3_2 z4_2 z5_2 z6_2 z7_2 z8_2 z9_2 z10_2 z11_2 z12_2 z13_2; obtain ⟨z0_3, z1_3, z2_3, z3_3, z4_3, z5_3, z6_3, z7_3, z8_3, z9_3, z10_3, z11_3, z12_3, z13_3⟩ := cells14 HS3.out))
    go_ret
    exact ⟨rfl, HB3.out⟩
  | true =>
  rw [hb] at hf3
  have h60 := hb60 hb
  clear hb hb60
  have hrun := fun W hC => parse_Run.at_ s hok A c L (by omega) W hC hc hby
  obtain ⟨h1, h2, -, h3, h4⟩ := runP_told L s [] 0 hok (fun v hv => nomatch hv) (by decide)
  obtain ⟨Q, hQ⟩ : ∃ Q, runR s L = Q := ⟨_, rfl⟩
  rw [hQ] at hrun
  rw [show runP s L [] 0 = Q from hQ] at h1 h2 h3 h4
  obtain ⟨t, told, n, e0⟩ := Q
  unfold RunPost at hrun
  simp only at h1 h2 h3 h4 hrun
  have HOK := Aside0.mk h1
  have HEND := Aside0.mk (And.intro h2 (And.intro h3 h4))
  have HLT := Aside0.mk (show told.length ≤ 1000 ∧ n ≤ 1000 by omega)
  clear hQ h1 h2 h3 h4 hok h60
  go_enter Try.func4, Try.ntmps4
  go_upto_region 6 with (first | (go_at_call 10; refine (hup _).mono ?_; rintro e_ w1 ⟨rfl, hb_⟩; have HB1 := Aside0.mk (below_step HB0.out hb_); have HS1 := Aside0.mk (blk_below HS0.out hb_); clear hb_; obtain ⟨z0_1, z1_1, z2_1, z3_1, z4_1, z5_1, z6_1, z7_1, z8_1, z9_1, z10_1, z11_1, z12_1, z13_1⟩ := cells14 HS1.out) | (go_at_call 11; refine (hfew _).mono ?_; rintro e_ w2 ⟨rfl, hb_⟩; have HB2 := Aside0.mk (below_step HB1.out hb_); have HS2 := Aside0.mk (blk_below HS1.out hb_); clear hb_ HB1 HS1 z0_1 z1_1 z2_1 z3_1 z4_1 z5_1 z6_1 z7_1 z8_1 z9_1 z10_1 z11_1 z12_1 z13_1; obtain ⟨z0_2, z1_2, z2_2, z3_2, z4_2, z5_2, z6_2, z7_2, z8_2, z9_2, z10_2, z11_2, z12_2, z13_2⟩ := cells14 HS2.out) | (go_at_call 14; refine (hf3 _ (Kd.C_below HC.out HB2.out)).mono ?_; rintro e_ w3 ⟨rfl, hd_⟩; have hb_ := Drawn0.below hd_; have HB3 := Aside0.mk (below_step HB2.out hb_); have HS3 := Aside0.mk (blk_below HS2.out hb_); clear hd_ hb_ HB2 HS2 z0_2 z1_2 z2_2 z3_2 z4_2 z5_2 z6_2 z7_2 z8_2 z9_2 z10_2 z11_2 z12_2 z13_2; obtain ⟨z0_3, z1_3, z2_3, z3_3, z4_3, z5_3, z6_3, z7_3, z8_3, z9_3, z10_3, z11_3, z12_3, z13_3⟩ := cells14 HS3.out))
  go_upto_region 7 with (go_at_call 15; refine (hrun _ (Kd.C_below HC.out HB3.out)).mono ?_; rintro e_ w4 ⟨A4, c4, rfl, hR, hb_⟩; have HB4 := Aside0.mk (below_alloc (below_step HB3.out hb_) (.cells #[.int .i64 t.f0, .string t.f1.f0, .string t.f1.f1, .int .u8 t.f1.f2, .int .i64 t.f1.f3, .int .i64 t.f1.f4, .int .i64 t.f1.f5, .int .i64 t.f1.f6, .string t.f1.f7, .int .i64 t.f2, .int .i64 t.f3, .string t.f4, .string t.f5, .string t.f6] 25)); have HE4 := Aside0.mk (Kd.R_reads' (Kd.R_alloc hR.out (.cells #[.int .i64 t.f0, .string t.f1.f0, .string t.f1.f1, .int .u8 t.f1.f2, .int .i64 t.f1.f3, .int .i64 t.f1.f4, .int .i64 t.f1.f5, .int .i64 t.f1.f6, .string t.f1.f7, .int .i64 t.f2, .int .i64 t.f3, .string t.f4, .string t.f5, .string t.f6] 25))).2.2; clear hb_ hR HB3 HS3 z0_3 z1_3 z2_3 z3_3 z4_3 z5_3 z6_3 z7_3 z8_3 z9_3 z10_3 z11_3 z12_3 z13_3)
  obtain ⟨W4, hW4⟩ : ∃ W', w4.alloc (.cells #[.int .i64 t.f0, .string t.f1.f0, .string t.f1.f1, .int .u8 t.f1.f2, .int .i64 t.f1.f3, .int .i64 t.f1.f4, .int .i64 t.f1.f5, .int .i64 t.f1.f6, .string t.f1.f7, .int .i64 t.f2, .int .i64 t.f3, .string t.f4, .string t.f5, .string t.f6] 25) = W' := ⟨_, rfl⟩
  rw [hW4] at HB4 HE4 ⊢
  clear hW4 hup hfew hf3 hrun
  go_wp2_with (fail)
  go_loopw [12] (fun v12 wr => ∃ i : Nat, v12 = .int .i64 i ∧ i ≤ told.length ∧ Aside0 (Below w.heap.size w wr) ∧ Aside0 (Kd.C k39 wr A4 told.length told)) (fun v12 _ => told.length - (intOf v12).toNat)
  case atStart => exact ⟨0, rfl, Nat.zero_le _, HB4, HE4⟩
  case round =>
    obtain ⟨i, rfl, hi, HBr, HCr⟩ := hrel
    clear HB4 HE4
    by_cases hlt : i < told.length
    · have hx := List.getElem?_eq_getElem hlt
      have hxm := HOK.out _ (List.getElem_mem hlt)
      obtain ⟨ad, rfl, k0, k1, k2, k3, k4, k5, k6, k7, k8, k9⟩ := ev_cells HCr.out hlt _ hx
      clear hx
      generalize told[i] = x at *
      obtain ⟨f0, ⟨g0, g1, g2, g3, g4, g5, g6, g7⟩, f2⟩ := x
      simp only at k0 k1 k2 k3 k4 k5 k6 k7 k8 k9
      have hi1 : (i : Int) < (told.length : Int) := by omega
      have hi0 : (0 : Int) ≤ (i : Int) := by omega
      have hw : IntKind.i64.wrap ((i : Int) + 1) = ((i + 1 : Nat) : Int) := by have h_ := HLT.out; rw [i64_w, wrap_id (by omega) (by omega)]; omega
      go_upto_region 11 with (fail)
      have HB5 := Aside0.mk (below_alloc HBr.out (.cells #[.int .i64 f0, .string g0, .string g1, .int .u8 g2, .int .i64 g3, .int .i64 g4, .int .i64 g5, .int .i64 g6, .string g7, .string f2] 39))
      have HX5 := Aside0.mk (heap_alloc_new wr (.cells #[.int .i64 f0, .string g0, .string g1, .int .u8 g2, .int .i64 g3, .int .i64 g4, .int .i64 g5, .int .i64 g6, .string g7, .string f2] 39))
      have HC5 := Aside0.mk (Kd.C_alloc HCr.out (.cells #[.int .i64 f0, .string g0, .string g1, .int .u8 g2, .int .i64 g3, .int .i64 g4, .int .i64 g5, .int .i64 g6, .string g7, .string f2] 39))
      obtain ⟨W5, hW5⟩ : ∃ W', wr.alloc (.cells #[.int .i64 f0, .string g0, .string g1, .int .u8 g2, .int .i64 g3, .int .i64 g4, .int .i64 g5, .int .i64 g6, .string g7, .string f2] 39) = W' := ⟨_, rfl⟩
      rw [hW5] at HB5 HX5 HC5 ⊢
      obtain ⟨g, hg_⟩ : ∃ k, wr.heap.size = k := ⟨_, rfl⟩
      rw [hg_] at HX5 ⊢
      clear hW5 hg_ HBr HCr k0 k1 k2 k3 k4 k5 k6 k7 k8 k9
      have x0_5 := (blk_cell HX5.out 0).trans (show _ = some (Value.int .i64 f0) from rfl)
      have x1_5 := (blk_cell HX5.out 1).trans (show _ = some (Value.string g0) from rfl)
      have x2_5 := (blk_cell HX5.out 2).trans (show _ = some (Value.string g1) from rfl)
      have x3_5 := (blk_cell HX5.out 3).trans (show _ = some (Value.int .u8 g2) from rfl)
      have x4_5 := (blk_cell HX5.out 4).trans (show _ = some (Value.int .i64 g3) from rfl)
      have x5_5 := (blk_cell HX5.out 5).trans (show _ = some (Value.int .i64 g4) from rfl)
      have x6_5 := (blk_cell HX5.out 6).trans (show _ = some (Value.int .i64 g5) from rfl)
      have x7_5 := (blk_cell HX5.out 7).trans (show _ = some (Value.int .i64 g6) from rfl)
      have x8_5 := (blk_cell HX5.out 8).trans (show _ = some (Value.string g7) from rfl)
      have x9_5 := (blk_cell HX5.out 9).trans (show _ = some (Value.string f2) from rfl)
      by_cases h0 : f0 = 0
      · subst h0
        obtain ⟨ho, h7⟩ := hxm.1 rfl
        have h7 : g7 = ⟨#[]⟩ := h7
        subst h7
        have hof := oneB_facts ho
        have hsz := one_sizes ho
        have hone := fun W => tree_One.calls g0 g1 g2 g3 g4 g5 g6 ⟨#[]⟩ true W ((one_b ⟨g0, g1, g2, g3, g4, g5, g6, ⟨#[]⟩⟩ (Nat.le_trans hsz.1 (by decide)) (Nat.le_trans hsz.2 (by decide))).trans (congrArg some ho))
        have hpm := fun W => path_May.calls g0 true W ((may_f (Nat.le_trans hsz.1 (by decide))).trans (congrArg some hof.path))
        clear ho hof hsz hxm
        go_wp2_with (first | (go_at_call 16; refine (hone _).mono ?_; rintro e_ w6 ⟨rfl, hb_⟩; have HB6 := Aside0.mk (below_step HB5.out hb_); have HX6 := Aside0.mk (blk_below HX5.out hb_); have HC6 := Aside0.mk (Kd.C_below HC5.out hb_); clear hb_ x0_5 x1_5 x2_5 x3_5 x4_5 x5_5 x6_5 x7_5 x8_5 x9_5; have x0_6 := (blk_cell HX6.out 0).trans (show _ = some (Value.int .i64 0) from rfl); have x1_6 := (blk_cell HX6.out 1).trans (show _ = some (Value.string g0) from rfl); have x2_6 := (blk_cell HX6.out 2).trans (show _ = some (Value.string g1) from rfl); have x3_6 := (blk_cell HX6.out 3).trans (show _ = some (Value.int .u8 g2) from rfl); have x4_6 := (blk_cell HX6.out 4).trans (show _ = some (Value.int .i64 g3) from rfl); have x5_6 := (blk_cell HX6.out 5).trans (show _ = some (Value.int .i64 g4) from rfl); have x6_6 := (blk_cell HX6.out 6).trans (show _ = some (Value.int .i64 g5) from rfl); have x7_6 := (blk_cell HX6.out 7).trans (show _ = some (Value.int .i64 g6) from rfl); have x8_6 := (blk_cell HX6.out 8).trans (show _ = some (Value.string ⟨#[]⟩) from rfl); have x9_6 := (blk_cell HX6.out 9).trans (show _ = some (Value.string f2) from rfl)) | (go_at_call 17; refine (hpm _).mono ?_; rintro e_ w7 ⟨rfl, hb_⟩; have HB7 := Aside0.mk (below_step HB6.out hb_); have HX7 := Aside0.mk (blk_below HX6.out hb_); have HC7 := Aside0.mk (Kd.C_below HC6.out hb_); clear hb_ x0_6 x1_6 x2_6 x3_6 x4_6 x5_6 x6_6 x7_6 x8_6 x9_6; have x0_7 := (blk_cell HX7.out 0).trans (show _ = some (Value.int .i64 0) from rfl); have x1_7 := (blk_cell HX7.out 1).trans (show _ = some (Value.string g0) from rfl); have x2_7 := (blk_cell HX7.out 2).trans (show _ = some (Value.string g1) from rfl); have x3_7 := (blk_cell HX7.out 3).trans (show _ = some (Value.int .u8 g2) from rfl); have x4_7 := (blk_cell HX7.out 4).trans (show _ = some (Value.int .i64 g3) from rfl); have x5_7 := (blk_cell HX7.out 5).trans (show _ = some (Value.int .i64 g4) from rfl); have x6_7 := (blk_cell HX7.out 6).trans (show _ = some (Value.int .i64 g5) from rfl); have x7_7 := (blk_cell HX7.out 7).trans (show _ = some (Value.int .i64 g6) from rfl); have x8_7 := (blk_cell HX7.out 8).trans (show _ = some (Value.string ⟨#[]⟩) from rfl); have x9_7 := (blk_cell HX7.out 9).trans (show _ = some (Value.string f2) from rfl)))
        go_roundw
        case rel => exact ⟨i + 1, by go_num, by omega, HB7, HC7⟩
        case measure => simp [intOf]; omega
      · have b0 : (f0 == 0) = false := beq_eq_false_iff_ne.2 h0
        by_cases h1 : f0 = 1
        · subst h1
          obtain ⟨a1, a2⟩ := hxm.2 rfl
          have a1 : 1 ≤ f2.size := a1
          have a2 : f2.size ≤ 512 := a2
          have t1 : decide ((f2.size : Int) < 1) = false := decide_eq_false (by omega)
          have t2 : decide ((f2.size : Int) > 512) = false := decide_eq_false (by omega)
          have t3 : decide ((512 : Int) < (f2.size : Int)) = false := decide_eq_false (by omega)
          have t4 : decide (f2.size < 1) = false := decide_eq_false (by omega)
          have t5 : decide (512 < f2.size) = false := decide_eq_false (by omega)
          have t6 : (f2.size == 0) = false := beq_eq_false_iff_ne.2 (by omega)
          clear hxm h0 a1 a2
          go_wp2_with (fail)
          go_roundw
          case rel => exact ⟨i + 1, by go_num, by omega, HB5, HC5⟩
          case measure => simp [intOf]; omega
        · have b1 : (f0 == 1) = false := beq_eq_false_iff_ne.2 h1
          clear hxm h0 h1
          go_wp2_with (fail)
          go_roundw
          case rel => exact ⟨i + 1, by go_num, by omega, HB5, HC5⟩
          case measure => simp [intOf]; omega
    · obtain rfl : i = told.length := by omega
      have hi1 : decide ((told.length : Int) < (told.length : Int)) = false := decide_eq_false (by omega)
      clear hlt
      obtain ⟨p1, p2, p3⟩ := HEND.out
      obtain ⟨m, hm⟩ : ∃ m : Nat, 2 * n = m := ⟨_, rfl⟩
      rw [hm] at p1
      have q1 : IntKind.i64.wrap (2 * (n : Int)) = (m : Int) := by have h_ := HLT.out; rw [i64_w, wrap_id (by omega) (by omega)]; omega
      have q2 : decide ((told.length : Int) ≤ (m : Int)) = true := decide_eq_true (by omega)
      have q3 : decide (told.length ≤ m) = true := decide_eq_true p1
      have q4 : decide ((n : Int) ≤ (L.length : Int)) = true := decide_eq_true (by omega)
      have q5 : decide (n ≤ L.length) = true := decide_eq_true (by omega)
      have q6 : decide ((n : Int) ≥ 0) = true := decide_eq_true (by omega)
      have q7 : decide ((0 : Int) ≤ (n : Int)) = true := decide_eq_true (by omega)
      by_cases h0 : e0 = 0
      · subst h0
        clear p1 p2 p3 hm
        go_wp2_with (fail)
        go_ret
        exact ⟨rfl, HBr.out⟩
      · have b0 : (e0 == 0) = false := beq_eq_false_iff_ne.2 h0
        have p4 : n < 0 + L.length := p3.resolve_left h0
        have q8 : decide ((n : Int) < (L.length : Int)) = true := decide_eq_true (by omega)
        have q9 : decide (n < L.length) = true := decide_eq_true (by omega)
        clear p1 p2 p3 p4 hm h0
        go_wp2_with (fail)
        go_ret
        exact ⟨rfl, HBr.out⟩
theorem reelkeeperlaw09_ParseSafe.calls (k : Nat) (s : Pst) (A : Option Addr) (c : Nat) (l : List (List Int)) (r : Bool) (w : World) (hC : Kd.C (Kd.slice 5 (Kd.int .u8)) w A l.length l) (hc : l.length ≤ c) (hY : ∀ r ∈ l, byteOk r) (h : reelkeeperlaw09_ParseSafe.f k s l = some r) :
    Calls Try.prog 4 #[.agg #[.int .i64 s.f0, .string s.f1.f0, .string s.f1.f1, .int .u8 s.f1.f2, .int .i64 s.f1.f3, .int .i64 s.f1.f4, .int .i64 s.f1.f5, .int .i64 s.f1.f6, .string s.f1.f7, .int .i64 s.f2, .int .i64 s.f3, .string s.f4, .string s.f5, .string s.f6], .slice A l.length c] w fun e w' => e = .returned (.bool r) ∧ Below w.heap.size w w' := by
  obtain rfl : true = r := Option.some.inj h
  exact parse_safe.at_ s A c l w hC hc hY

end Go.Proofs.Ytoahjigjlgcjkaa.X
