import Derived.Test.YtklbnfpjjcidiaaXK
import Derived.Test.YtklbnfpjjcidiaaXGfsa
import Derived.Test.YtklbnfpjjcidiaaXGfsb
import Derived.Test.YtklbnfpjjcidiaaXGfsc
import Derived.Test.YtklbnfpjjcidiaaXGslices
import Derived.Test.YtklbnfpjjcidiaaXGtree
import Derived.Test.YtklbnfpjjcidiaaYAll
import Derived.Test.YtklbnfpjjcidiaaP02p
import Derived.Test.YtklbnfpjjcidiaaP06a
import Derived.Test.YtklbnfpjjcidiaaPGA
import Derived.Deep.RegionHeld3
import Derived.Laws.EntriesVeiled
import Derived.WalkSpells
namespace Go.Proofs.Ytklbnfpjjcidiaa.X
open Go.RowKit Go.Proofs.YtklbnfpjjcidiaaW.PrintWords Go.Proofs.YtklbnfpjjcidiaaW.PrintLast Go.Proofs.YtklbnfpjjcidiaaW.PrintMore
attribute [local go_sem] max2_int min2_int max_two min_two
set_option linter.unusedVariables false
set_option linter.unusedSimpArgs false

open Go.Proofs.YtklbnfpjjcidiaaY
set_option maxRecDepth 100000
theorem list8k {l : List Value} (h : l.length = 8) : ∃ a b c d e f g i, l = [a, b, c, d, e, f, g, i] := by
  match l, h with
  | [a, b, c, d, e, f, g, i], _ => exact ⟨a, b, c, d, e, f, g, i, rfl⟩
theorem store8 {W : World} {g : Nat} {cs : Array Value} {T : TypeId} (hg : W.heap[g]? = some (.cells cs T (0, 0))) (hl : cs.size = 8) (x0 x1 x2 x3 x4 x5 x6 x7 : Value) :
    ((((((((W.setCell ⟨g, 0, none⟩ x0).setCell ⟨g, 1, none⟩ x1).setCell ⟨g, 2, none⟩ x2).setCell ⟨g, 3, none⟩ x3).setCell ⟨g, 4, none⟩ x4).setCell ⟨g, 5, none⟩ x5).setCell ⟨g, 6, none⟩ x6).setCell ⟨g, 7, none⟩ x7).heap[g]? = some (.cells #[x0, x1, x2, x3, x4, x5, x6, x7] T (0, 0)) := by
  have h := blk_set (blk_set (blk_set (blk_set (blk_set (blk_set (blk_set (blk_set hg 0 x0) 1 x1) 2 x2) 3 x3) 4 x4) 5 x5) 6 x6) 7 x7
  rw [h]
  obtain ⟨l⟩ := cs
  obtain ⟨a, b, c, d, e, f, g, i, rfl⟩ := list8k (show l.length = 8 from hl)
  simp only [List.setIfInBounds_toArray, List.set_cons_zero, List.set_cons_succ]
theorem below8 {B : Nat} {w W : World} (h : Below B w W) {g : Nat} (hg : B ≤ g) (x0 x1 x2 x3 x4 x5 x6 x7 : Value) :
    Below B w ((((((((W.setCell ⟨g, 0, none⟩ x0).setCell ⟨g, 1, none⟩ x1).setCell ⟨g, 2, none⟩ x2).setCell ⟨g, 3, none⟩ x3).setCell ⟨g, 4, none⟩ x4).setCell ⟨g, 5, none⟩ x5).setCell ⟨g, 6, none⟩ x6).setCell ⟨g, 7, none⟩ x7) :=
  (((((((h.setCell (p := ⟨g, 0, none⟩) hg _).setCell (p := ⟨g, 1, none⟩) hg _).setCell (p := ⟨g, 2, none⟩) hg _).setCell (p := ⟨g, 3, none⟩) hg _).setCell (p := ⟨g, 4, none⟩) hg _).setCell (p := ⟨g, 5, none⟩) hg _).setCell (p := ⟨g, 6, none⟩) hg _).setCell (p := ⟨g, 7, none⟩) hg _
def nd0 : Nd := ⟨⟨#[]⟩, ⟨#[]⟩, 0, 0, 0, 0, 0, ⟨#[]⟩⟩
/-- A node of a path, or why there is none. -/
noncomputable def fsGet (l : List Nd) (p : ByteArray) : Nd × Int :=
  if fsMay l = true then (match fsHas l p, l[fsIdx l p]? with
    | true, some n => (n, 0)
    | _, _ => (nd0, 9)) else (nd0, 1)
theorem fsGet_no {l : List Nd} {p : ByteArray} (h : fsMay l = false) : fsGet l p = (nd0, 1) := by unfold fsGet; rw [h]; rfl
theorem fsGet_none {l : List Nd} {p : ByteArray} (h : fsMay l = true) (h2 : fsHas l p = false) : fsGet l p = (nd0, 9) := by unfold fsGet; rw [h, if_pos rfl, h2]
theorem fsGet_some {l : List Nd} {p : ByteArray} {n : Nd} (h : fsMay l = true) (h2 : fsHas l p = true) (h3 : l[fsIdx l p]? = some n) : fsGet l p = (n, 0) := by unfold fsGet; rw [h, if_pos rfl, h2, h3]
theorem may_sorted {l : List Nd} (h : fsMay l = true) : Sorted l := sorted_of_rises (fsMay_rises h).2.1
set_option maxHeartbeats 1600000 in
theorem fs_Get.at_ (A : Option Addr) (c : Nat) (l : List Nd) (p : ByteArray) (w : World) (hC : Kd.C kNd w A l.length l) (hl : l.length ≤ 1000) (hok : ∀ x ∈ l, okN x = true) :
    Calls Try.prog 16 #[.agg #[.slice A l.length c], .string p] w fun e w' => e = .returned (.tuple #[nodeV (fsGet l p).1, .int .i64 (fsGet l p).2]) ∧ Below w.heap.size w w' := by
  have HC := Aside0.mk hC
  have HB0 := Aside0.mk (below_alloc (below_alloc (Below.refl w.heap.size w) (.cells #[.slice A l.length c] 24)) (.cells #[.string ⟨#[]⟩, .string ⟨#[]⟩, .int .u8 0, .int .i64 0, .int .i64 0, .int .i64 0, .int .i64 0, .string ⟨#[]⟩] 26))
  have HF0 := Aside0.mk (blk_alloc (heap_alloc_new w (.cells #[.slice A l.length c] 24)) (.cells #[.string ⟨#[]⟩, .string ⟨#[]⟩, .int .u8 0, .int .i64 0, .int .i64 0, .int .i64 0, .int .i64 0, .string ⟨#[]⟩] 26))
  have HN0 := heap_alloc_new (w.alloc (.cells #[.slice A l.length c] 24)) (.cells #[.string ⟨#[]⟩, .string ⟨#[]⟩, .int .u8 0, .int .i64 0, .int .i64 0, .int .i64 0, .int .i64 0, .string ⟨#[]⟩] 26)
  rw [World.size_alloc] at HN0
  have HN0 := Aside0.mk HN0
  have zF0 := (blk_cell HF0.out 0).trans (show _ = some (Value.slice A l.length c) from rfl)
  have hmay := fun W hC' => fs_May.at_ A c l W hC' hl hok
  clear hC
  cases hm : fsMay l with
  | false =>
    rw [hm] at hmay
    have HG := Aside0.mk (fsGet_no (p := p) hm)
    clear hm
    go_enter Try.func16, Try.ntmps16
    go_wp2_with (first | (have _t := HB0; go_at_call 22; (with_reducible refine (hmay _ (Kd.C_below HC.out HB0.out)).mono ?_); rintro e w1 ⟨rfl, hb⟩; have HB1 := Aside0.mk (below_step HB0.out hb); have HF1 := Aside0.mk (blk_below HF0.out hb); have HN1 := Aside0.mk (blk_below HN0.out hb); obtain ⟨zN0_1, zN1_1, zN2_1, zN3_1, zN4_1, zN5_1, zN6_1, zN7_1⟩ := cells8 HN1.out; have yN0_1 := blk_frozen HN1.out 0; have yN1_1 := blk_frozen HN1.out 1; have yN2_1 := blk_frozen HN1.out 2; have yN3_1 := blk_frozen HN1.out 3; have yN4_1 := blk_frozen HN1.out 4; have yN5_1 := blk_frozen HN1.out 5; have yN6_1 := blk_frozen HN1.out 6; have yN7_1 := blk_frozen HN1.out 7; clear hb; have zF1 := (blk_cell HF1.out 0).trans (show _ = some (Value.slice A l.length c) from rfl)))
    refine bodyPost_ret (results_list (rs := [.cell 4 26, .tmp 5]) rfl (by simp) (.cell (w.heap.size + 1) 26 #[.string ⟨#[]⟩, .string ⟨#[]⟩, .int .u8 0, .int .i64 0, .int .i64 0, .int .i64 0, .int .i64 0, .string ⟨#[]⟩] (0, 0) _ rfl (store8 HN1.out rfl _ _ _ _ _ _ _ _) Try.underlying26 rfl nd_sz (.tmp .nil))) rfl ?_
    exact ⟨by rw [HG.out]; rfl, below8 HB1.out (Nat.le_succ _) _ _ _ _ _ _ _ _⟩
  | true =>
    rw [hm] at hmay
    have hs := may_sorted hm
    have hat := fun W hC' => fs_at.at_ A c l p W hs hC' hl
    clear hs
    cases hh : fsHas l p with
    | false =>
      rw [hh] at hat
      have HG := Aside0.mk (fsGet_none hm hh)
      clear hm hh
      generalize fsIdx l p = i at *
      go_enter Try.func16, Try.ntmps16
      go_wp2_with (first | (have _t := HB0; go_at_call 22; (with_reducible refine (hmay _ (Kd.C_below HC.out HB0.out)).mono ?_); rintro e w1 ⟨rfl, hb⟩; have HB1 := Aside0.mk (below_step HB0.out hb); have HF1 := Aside0.mk (blk_below HF0.out hb); have HN1 := Aside0.mk (blk_below HN0.out hb); obtain ⟨zN0_1, zN1_1, zN2_1, zN3_1, zN4_1, zN5_1, zN6_1, zN7_1⟩ := cells8 HN1.out; have yN0_1 := blk_frozen HN1.out 0; have yN1_1 := blk_frozen HN1.out 1; have yN2_1 := blk_frozen HN1.out 2; have yN3_1 := blk_frozen HN1.out 3; have yN4_1 := blk_frozen HN1.out 4; have yN5_1 := blk_frozen HN1.out 5; have yN6_1 := blk_frozen HN1.out 6; have yN7_1 := blk_frozen HN1.out 7; clear hb; have zF1 := (blk_cell HF1.out 0).trans (show _ = some (Value.slice A l.length c) from rfl)) | (have _t := HB1; go_at_call 32; (with_reducible refine (hat _ (Kd.C_below HC.out HB1.out)).mono ?_); rintro e w2 ⟨rfl, hb⟩; have HB2 := Aside0.mk (below_step HB1.out hb); have HF2 := Aside0.mk (blk_below HF1.out hb); have HN2 := Aside0.mk (blk_below HN1.out hb); obtain ⟨zN0_2, zN1_2, zN2_2, zN3_2, zN4_2, zN5_2, zN6_2, zN7_2⟩ := cells8 HN2.out; have yN0_2 := blk_frozen HN2.out 0; have yN1_2 := blk_frozen HN2.out 1; have yN2_2 := blk_frozen HN2.out 2; have yN3_2 := blk_frozen HN2.out 3; have yN4_2 := blk_frozen HN2.out 4; have yN5_2 := blk_frozen HN2.out 5; have yN6_2 := blk_frozen HN2.out 6; have yN7_2 := blk_frozen HN2.out 7; clear hb; have zF2 := (blk_cell HF2.out 0).trans (show _ = some (Value.slice A l.length c) from rfl)))
      refine bodyPost_ret (results_list (rs := [.cell 4 26, .tmp 5]) rfl (by simp) (.cell (w.heap.size + 1) 26 #[.string ⟨#[]⟩, .string ⟨#[]⟩, .int .u8 0, .int .i64 0, .int .i64 0, .int .i64 0, .int .i64 0, .string ⟨#[]⟩] (0, 0) _ rfl (store8 HN2.out rfl _ _ _ _ _ _ _ _) Try.underlying26 rfl nd_sz (.tmp .nil))) rfl ?_
      exact ⟨by rw [HG.out]; rfl, below8 HB2.out (Nat.le_succ _) _ _ _ _ _ _ _ _⟩
    | true =>
      rw [hh] at hat
      obtain ⟨hi, _⟩ := fsHas_lt hh
      obtain ⟨x, hx⟩ : ∃ x, l[fsIdx l p]? = some x := ⟨_, List.getElem?_eq_getElem hi⟩
      have HG := Aside0.mk (fsGet_some hm hh hx)
      have HX := Aside0.mk hx
      clear hm hh hx
      generalize fsIdx l p = i at *
      have hi0 : (0 : Int) ≤ (i : Int) := by omega
      have hi1 : (i : Int) < (l.length : Int) := by omega
      go_enter Try.func16, Try.ntmps16
      go_upto_region 6 with (first | (have _t := HB0; go_at_call 22; (with_reducible refine (hmay _ (Kd.C_below HC.out HB0.out)).mono ?_); rintro e w1 ⟨rfl, hb⟩; have HB1 := Aside0.mk (below_step HB0.out hb); have HF1 := Aside0.mk (blk_below HF0.out hb); have HN1 := Aside0.mk (blk_below HN0.out hb); obtain ⟨zN0_1, zN1_1, zN2_1, zN3_1, zN4_1, zN5_1, zN6_1, zN7_1⟩ := cells8 HN1.out; have yN0_1 := blk_frozen HN1.out 0; have yN1_1 := blk_frozen HN1.out 1; have yN2_1 := blk_frozen HN1.out 2; have yN3_1 := blk_frozen HN1.out 3; have yN4_1 := blk_frozen HN1.out 4; have yN5_1 := blk_frozen HN1.out 5; have yN6_1 := blk_frozen HN1.out 6; have yN7_1 := blk_frozen HN1.out 7; clear hb; have zF1 := (blk_cell HF1.out 0).trans (show _ = some (Value.slice A l.length c) from rfl)) | (have _t := HB1; go_at_call 32; (with_reducible refine (hat _ (Kd.C_below HC.out HB1.out)).mono ?_); rintro e w2 ⟨rfl, hb⟩; have HB2 := Aside0.mk (below_step HB1.out hb); have HF2 := Aside0.mk (blk_below HF1.out hb); have HN2 := Aside0.mk (blk_below HN1.out hb); obtain ⟨zN0_2, zN1_2, zN2_2, zN3_2, zN4_2, zN5_2, zN6_2, zN7_2⟩ := cells8 HN2.out; have yN0_2 := blk_frozen HN2.out 0; have yN1_2 := blk_frozen HN2.out 1; have yN2_2 := blk_frozen HN2.out 2; have yN3_2 := blk_frozen HN2.out 3; have yN4_2 := blk_frozen HN2.out 4; have yN5_2 := blk_frozen HN2.out 5; have yN6_2 := blk_frozen HN2.out 6; have yN7_2 := blk_frozen HN2.out 7; clear hb; have zF2 := (blk_cell HF2.out 0).trans (show _ = some (Value.slice A l.length c) from rfl)))
      obtain ⟨ad, rfl, k0, k1, k2, k3, k4, k5, k6, k7⟩ := nd_cells (Kd.C_below HC.out HB2.out) hi x HX.out
      obtain ⟨a0, a1, a2, a3, a4, a5, a6, a7⟩ := x
      simp only at k0 k1 k2 k3 k4 k5 k6 k7
      go_wp2_with (fail)
      refine bodyPost_ret (results_list (rs := [.cell 4 26, .tmp 5]) rfl (by simp) (.cell (w.heap.size + 1) 26 #[.string a0, .string a1, .int .u8 a2, .int .i64 a3, .int .i64 a4, .int .i64 a5, .int .i64 a6, .string a7] (0, 0) _ rfl (store8 HN2.out rfl _ _ _ _ _ _ _ _) Try.underlying26 rfl nd_sz (.tmp .nil))) rfl ?_
      exact ⟨by rw [HG.out]; rfl, below8 HB2.out (Nat.le_succ _) _ _ _ _ _ _ _ _⟩
end Go.Proofs.Ytklbnfpjjcidiaa.X
namespace Go.Proofs.Ytklbnfpjjcidiaa.X
open Go.RowKit Go.Proofs.YtklbnfpjjcidiaaW.PrintWords Go.Proofs.YtklbnfpjjcidiaaW.PrintLast Go.Proofs.YtklbnfpjjcidiaaW.PrintMore
attribute [local go_sem] max2_int min2_int max_two min_two
set_option linter.unusedVariables false
set_option linter.unusedSimpArgs false

open Go.Proofs.YtklbnfpjjcidiaaY
set_option maxRecDepth 100000
theorem R_past {W : World} {base b : Nat} {v : Value} {l : List Nd} {cs : Array Value} (hR : Kd.R kNd 26 W base (fun _ => True) v l) (hZ : W.heap[b]? = some (.cells cs 24 (0, 0))) (x : Value) : Kd.R kNd 26 (W.setCell ⟨b, 0, none⟩ x) base (fun _ => True) v l :=
  Kd.R_mono (Kd.R_far (Kd.R_mono (Kd.R_bound hR) (ok' := fun k => k ≠ b) (fun k hk => fun he => by
    subst he
    obtain ⟨q, hq, cells, hc⟩ := hk.2.2.2
    rw [hZ] at hc
    injection hc with hc
    injection hc with _ hc _
    subst hc
    revert hq
    decide)) (p := ⟨b, 0, none⟩) (fun k hk => hk) x) (fun _ _ => trivial)
noncomputable def fsPut (l : List Nd) (n : Nd) : List Nd × Int :=
  if (fsMay l && one n) = true then (if fsHas l n.f0 = true then (l, 10) else if standsB l n = true then (if l.length = 20 then (l, 8) else (l.take (fsIdx l n.f0) ++ n :: l.drop (fsIdx l n.f0), 0)) else (l, 9)) else (l, 1)
theorem fsPut_1 {l : List Nd} {n : Nd} (h : (fsMay l && one n) = false) : fsPut l n = (l, 1) := by unfold fsPut; rw [h]; rfl
theorem fsPut_10 {l : List Nd} {n : Nd} (h : (fsMay l && one n) = true) (h2 : fsHas l n.f0 = true) : fsPut l n = (l, 10) := by unfold fsPut; rw [if_pos h, if_pos h2]
theorem fsPut_9 {l : List Nd} {n : Nd} (h : (fsMay l && one n) = true) (h2 : fsHas l n.f0 = false) (h3 : standsB l n = false) : fsPut l n = (l, 9) := by unfold fsPut; rw [if_pos h, h2, h3]; rfl
theorem fsPut_8 {l : List Nd} {n : Nd} (h : (fsMay l && one n) = true) (h2 : fsHas l n.f0 = false) (h3 : standsB l n = true) (h4 : l.length = 20) : fsPut l n = (l, 8) := by unfold fsPut; rw [if_pos h, h2, h3, if_neg (by decide), if_pos rfl, if_pos h4]
theorem fsPut_0 {l : List Nd} {n : Nd} (h : (fsMay l && one n) = true) (h2 : fsHas l n.f0 = false) (h3 : standsB l n = true) (h4 : ¬ l.length = 20) : fsPut l n = (l.take (fsIdx l n.f0) ++ n :: l.drop (fsIdx l n.f0), 0) := by unfold fsPut; rw [if_pos h, h2, h3, if_neg (by decide), if_pos rfl, if_neg h4]
theorem fsIdx_le (l : List Nd) (p : ByteArray) : fsIdx l p ≤ l.length := List.findIdx_le_length
set_option maxHeartbeats 3200000 in
theorem fs_Put.at_ (A : Option Addr) (c : Nat) (l : List Nd) (n : Nd) (w : World) (hC : Kd.C kNd w A l.length l) (hl : l.length ≤ 1000) (hok : ∀ x ∈ l, okN x = true) (hn : okN n = true) :
    Calls Try.prog 12 #[.agg #[.slice A l.length c], .agg #[.string n.f0, .string n.f1, .int .u8 n.f2, .int .i64 n.f3, .int .i64 n.f4, .int .i64 n.f5, .int .i64 n.f6, .string n.f7]] w fun e w' => ∃ (A' : Option Addr) (c' : Nat), e = .returned (.tuple #[.agg #[.slice A' (fsPut l n).1.length c'], .int .i64 (fsPut l n).2]) ∧ Aside0 (Kd.R kNd 26 w' w.heap.size (fun _ => True) (.slice A' (fsPut l n).1.length c') (fsPut l n).1) ∧ Below w.heap.size w w' := by
  have HC := Aside0.mk hC
  have HB0 := Aside0.mk (below_alloc (below_alloc (below_alloc (Below.refl w.heap.size w) (.cells #[.slice A l.length c] 24)) (.cells #[.string n.f0, .string n.f1, .int .u8 n.f2, .int .i64 n.f3, .int .i64 n.f4, .int .i64 n.f5, .int .i64 n.f6, .string n.f7] 26)) (.cells #[Value.slice none 0 0] 24))
  have HF0 := Aside0.mk (blk_alloc (blk_alloc (heap_alloc_new w (.cells #[.slice A l.length c] 24)) (.cells #[.string n.f0, .string n.f1, .int .u8 n.f2, .int .i64 n.f3, .int .i64 n.f4, .int .i64 n.f5, .int .i64 n.f6, .string n.f7] 26)) (.cells #[Value.slice none 0 0] 24))
  have HN0 := blk_alloc (heap_alloc_new (w.alloc (.cells #[.slice A l.length c] 24)) (.cells #[.string n.f0, .string n.f1, .int .u8 n.f2, .int .i64 n.f3, .int .i64 n.f4, .int .i64 n.f5, .int .i64 n.f6, .string n.f7] 26)) (.cells #[Value.slice none 0 0] 24)
  have HZ0 := heap_alloc_new ((w.alloc (.cells #[.slice A l.length c] 24)).alloc (.cells #[.string n.f0, .string n.f1, .int .u8 n.f2, .int .i64 n.f3, .int .i64 n.f4, .int .i64 n.f5, .int .i64 n.f6, .string n.f7] 26)) (.cells #[Value.slice none 0 0] 24)
  rw [show (w.alloc (.cells #[.slice A l.length c] 24)).heap.size = w.heap.size + 1 by simp] at HN0
  rw [show ((w.alloc (.cells #[.slice A l.length c] 24)).alloc (.cells #[.string n.f0, .string n.f1, .int .u8 n.f2, .int .i64 n.f3, .int .i64 n.f4, .int .i64 n.f5, .int .i64 n.f6, .string n.f7] 26)).heap.size = w.heap.size + 2 by simp] at HZ0
  have HN0 := Aside0.mk HN0
  have HZ0 := Aside0.mk HZ0
  have zF0 := (blk_cell HF0.out 0).trans (show _ = some (Value.slice A l.length c) from rfl)
  have zZ0 := (blk_cell HZ0.out 0).trans (show _ = some (Value.slice none 0 0) from rfl)
  obtain ⟨zN0_0, zN1_0, zN2_0, zN3_0, zN4_0, zN5_0, zN6_0, zN7_0⟩ := cells8 HN0.out
  have hmay := fun W hC' => fs_May.at_ A c l W hC' hl hok
  have hown := fun W hC' => fs_own.at_ A c l W hC' hl
  have hone := fun W => tree_One.calls n.f0 n.f1 n.f2 n.f3 n.f4 n.f5 n.f6 n.f7 (one n) W (one_f hn)
  have hns : n.f0.size ≤ 9223372036854775807 := by have := (okN_iff.1 hn).1; omega
  clear hC
  cases hm : fsMay l with
  | false =>
    rw [hm] at hmay
    have HG := Aside0.mk (fsPut_1 (n := n) (show (fsMay l && one n) = false by rw [hm]; rfl))
    clear hm
    go_enter Try.func12, Try.ntmps12
    go_wp2_with (first | (have _t := HB0; go_at_call 31; (with_reducible refine (hown _ (Kd.C_below HC.out HB0.out)).mono ?_); rintro e w1 ⟨g, rfl, hR, hb⟩; have HB1 := Aside0.mk (below_alloc (below_step HB0.out hb) (.cells #[Value.slice (some ⟨g, 0, none⟩) l.length l.length] 24)); have HR1 := Aside0.mk (Kd.R_alloc hR (.cells #[Value.slice (some ⟨g, 0, none⟩) l.length l.length] 24)); have HO1 := Aside0.mk (heap_alloc_new w1 (.cells #[Value.slice (some ⟨g, 0, none⟩) l.length l.length] 24)); have HF1 := Aside0.mk (blk_alloc (blk_below HF0.out hb) (.cells #[Value.slice (some ⟨g, 0, none⟩) l.length l.length] 24)); have HZ1 := Aside0.mk (blk_alloc (blk_below HZ0.out hb) (.cells #[Value.slice (some ⟨g, 0, none⟩) l.length l.length] 24)); have HN1 := Aside0.mk (blk_alloc (blk_below HN0.out hb) (.cells #[Value.slice (some ⟨g, 0, none⟩) l.length l.length] 24)); have HLT := Aside0.mk (blk_lt (blk_below HZ0.out hb)); clear hb hR; have zF1 := (blk_cell HF1.out 0).trans (show _ = some (Value.slice A l.length c) from rfl); have zZ1 := (blk_cell HZ1.out 0).trans (show _ = some (Value.slice none 0 0) from rfl); obtain ⟨zN0_1, zN1_1, zN2_1, zN3_1, zN4_1, zN5_1, zN6_1, zN7_1⟩ := cells8 HN1.out; have yZ1 := blk_frozen HZ1.out 0; have yO1 := blk_frozen HO1.out 0) | (have _t := HB1; go_at_call 22; (with_reducible refine (hmay _ (Kd.C_below HC.out HB1.out)).mono ?_); rintro e w2 ⟨rfl, hb⟩; have HB2 := Aside0.mk (below_step HB1.out hb); have HF2 := Aside0.mk (blk_below HF1.out hb); have HZ2 := Aside0.mk (blk_below HZ1.out hb); have HO2 := Aside0.mk (blk_below HO1.out hb); have HN2 := Aside0.mk (blk_below HN1.out hb); have HR2 := Aside0.mk (Kd.R_below HR1.out hb); clear hb; have zF2 := (blk_cell HF2.out 0).trans (show _ = some (Value.slice A l.length c) from rfl); have zZ2 := (blk_cell HZ2.out 0).trans (show _ = some (Value.slice none 0 0) from rfl); have zO2 := (blk_cell HO2.out 0).trans (show _ = some (Value.slice (some ⟨g, 0, none⟩) l.length l.length) from rfl); obtain ⟨zN0_2, zN1_2, zN2_2, zN3_2, zN4_2, zN5_2, zN6_2, zN7_2⟩ := cells8 HN2.out; have yZ2 := blk_frozen HZ2.out 0; have yO2 := blk_frozen HO2.out 0))
    refine bodyPost_ret (results_list (rs := [.cell 4 24, .tmp 5]) rfl (by simp) (.cell (w.heap.size + 2) 24 #[.slice (some ⟨g, 0, none⟩) l.length l.length] (0, 0) _ rfl (blk_put HZ2.out 0 _ rfl) Try.underlying24 rfl fs_size (.tmp .nil))) rfl ?_
    exact ⟨some ⟨g, 0, none⟩, l.length, by rw [HG.out]; rfl, by rw [HG.out]; exact ⟨Kd.R_lower (R_past HR2.out HZ2.out _) (by simp only [World.size_alloc]; omega)⟩, HB2.out.setCell (p := ⟨w.heap.size + 2, 0, none⟩) (by show w.heap.size ≤ w.heap.size + 2; omega) _⟩
  | true =>
    rw [hm] at hmay
    have hs := may_sorted hm
    have hat := fun W hC' => fs_at.at_ A c l n.f0 W hs hC' hl
    have hst := fun W hC' => fs_stands.at_ A c l n W hs hC' hl hns
    clear hs
    cases ho : one n with
    | false =>
      rw [ho] at hone
      have HG := Aside0.mk (fsPut_1 (show (fsMay l && one n) = false by rw [hm, ho]; rfl))
      clear hm ho
      go_enter Try.func12, Try.ntmps12
      go_wp2_with (first | (have _t := HB0; go_at_call 31; (with_reducible refine (hown _ (Kd.C_below HC.out HB0.out)).mono ?_); rintro e w1 ⟨g, rfl, hR, hb⟩; have HB1 := Aside0.mk (below_alloc (below_step HB0.out hb) (.cells #[Value.slice (some ⟨g, 0, none⟩) l.length l.length] 24)); have HR1 := Aside0.mk (Kd.R_alloc hR (.cells #[Value.slice (some ⟨g, 0, none⟩) l.length l.length] 24)); have HO1 := Aside0.mk (heap_alloc_new w1 (.cells #[Value.slice (some ⟨g, 0, none⟩) l.length l.length] 24)); have HF1 := Aside0.mk (blk_alloc (blk_below HF0.out hb) (.cells #[Value.slice (some ⟨g, 0, none⟩) l.length l.length] 24)); have HZ1 := Aside0.mk (blk_alloc (blk_below HZ0.out hb) (.cells #[Value.slice (some ⟨g, 0, none⟩) l.length l.length] 24)); have HN1 := Aside0.mk (blk_alloc (blk_below HN0.out hb) (.cells #[Value.slice (some ⟨g, 0, none⟩) l.length l.length] 24)); have HLT := Aside0.mk (blk_lt (blk_below HZ0.out hb)); clear hb hR; have zF1 := (blk_cell HF1.out 0).trans (show _ = some (Value.slice A l.length c) from rfl); have zZ1 := (blk_cell HZ1.out 0).trans (show _ = some (Value.slice none 0 0) from rfl); obtain ⟨zN0_1, zN1_1, zN2_1, zN3_1, zN4_1, zN5_1, zN6_1, zN7_1⟩ := cells8 HN1.out; have yZ1 := blk_frozen HZ1.out 0; have yO1 := blk_frozen HO1.out 0) | (have _t := HB1; go_at_call 22; (with_reducible refine (hmay _ (Kd.C_below HC.out HB1.out)).mono ?_); rintro e w2 ⟨rfl, hb⟩; have HB2 := Aside0.mk (below_step HB1.out hb); have HF2 := Aside0.mk (blk_below HF1.out hb); have HZ2 := Aside0.mk (blk_below HZ1.out hb); have HO2 := Aside0.mk (blk_below HO1.out hb); have HN2 := Aside0.mk (blk_below HN1.out hb); have HR2 := Aside0.mk (Kd.R_below HR1.out hb); clear hb; have zF2 := (blk_cell HF2.out 0).trans (show _ = some (Value.slice A l.length c) from rfl); have zZ2 := (blk_cell HZ2.out 0).trans (show _ = some (Value.slice none 0 0) from rfl); have zO2 := (blk_cell HO2.out 0).trans (show _ = some (Value.slice (some ⟨g, 0, none⟩) l.length l.length) from rfl); obtain ⟨zN0_2, zN1_2, zN2_2, zN3_2, zN4_2, zN5_2, zN6_2, zN7_2⟩ := cells8 HN2.out; have yZ2 := blk_frozen HZ2.out 0; have yO2 := blk_frozen HO2.out 0) | (have _t := HB2; go_at_call 25; (with_reducible refine (hone _).mono ?_); rintro e w3 ⟨rfl, hb⟩; have HB3 := Aside0.mk (below_step HB2.out hb); have HF3 := Aside0.mk (blk_below HF2.out hb); have HZ3 := Aside0.mk (blk_below HZ2.out hb); have HO3 := Aside0.mk (blk_below HO2.out hb); have HN3 := Aside0.mk (blk_below HN2.out hb); have HR3 := Aside0.mk (Kd.R_below HR2.out hb); clear hb; have zF3 := (blk_cell HF3.out 0).trans (show _ = some (Value.slice A l.length c) from rfl); have zZ3 := (blk_cell HZ3.out 0).trans (show _ = some (Value.slice none 0 0) from rfl); have zO3 := (blk_cell HO3.out 0).trans (show _ = some (Value.slice (some ⟨g, 0, none⟩) l.length l.length) from rfl); obtain ⟨zN0_3, zN1_3, zN2_3, zN3_3, zN4_3, zN5_3, zN6_3, zN7_3⟩ := cells8 HN3.out; have yZ3 := blk_frozen HZ3.out 0; have yO3 := blk_frozen HO3.out 0))
      refine bodyPost_ret (results_list (rs := [.cell 4 24, .tmp 5]) rfl (by simp) (.cell (w.heap.size + 2) 24 #[.slice (some ⟨g, 0, none⟩) l.length l.length] (0, 0) _ rfl (blk_put HZ3.out 0 _ rfl) Try.underlying24 rfl fs_size (.tmp .nil))) rfl ?_
      exact ⟨some ⟨g, 0, none⟩, l.length, by rw [HG.out]; rfl, by rw [HG.out]; exact ⟨Kd.R_lower (R_past HR3.out HZ3.out _) (by simp only [World.size_alloc]; omega)⟩, HB3.out.setCell (p := ⟨w.heap.size + 2, 0, none⟩) (by show w.heap.size ≤ w.heap.size + 2; omega) _⟩
    | true =>
      rw [ho] at hone
      have hmo : (fsMay l && one n) = true := by rw [hm, ho]; rfl
      clear hm ho
      cases hh : fsHas l n.f0 with
      | true =>
        rw [hh] at hat
        have HG := Aside0.mk (fsPut_10 hmo hh)
        clear hmo hh
        generalize fsIdx l n.f0 = i at *
        go_enter Try.func12, Try.ntmps12
        go_wp2_with (first | (have _t := HB0; go_at_call 31; (with_reducible refine (hown _ (Kd.C_below HC.out HB0.out)).mono ?_); rintro e w1 ⟨g, rfl, hR, hb⟩; have HB1 := Aside0.mk (below_alloc (below_step HB0.out hb) (.cells #[Value.slice (some ⟨g, 0, none⟩) l.length l.length] 24)); have HR1 := Aside0.mk (Kd.R_alloc hR (.cells #[Value.slice (some ⟨g, 0, none⟩) l.length l.length] 24)); have HO1 := Aside0.mk (heap_alloc_new w1 (.cells #[Value.slice (some ⟨g, 0, none⟩) l.length l.length] 24)); have HF1 := Aside0.mk (blk_alloc (blk_below HF0.out hb) (.cells #[Value.slice (some ⟨g, 0, none⟩) l.length l.length] 24)); have HZ1 := Aside0.mk (blk_alloc (blk_below HZ0.out hb) (.cells #[Value.slice (some ⟨g, 0, none⟩) l.length l.length] 24)); have HN1 := Aside0.mk (blk_alloc (blk_below HN0.out hb) (.cells #[Value.slice (some ⟨g, 0, none⟩) l.length l.length] 24)); have HLT := Aside0.mk (blk_lt (blk_below HZ0.out hb)); clear hb hR; have zF1 := (blk_cell HF1.out 0).trans (show _ = some (Value.slice A l.length c) from rfl); have zZ1 := (blk_cell HZ1.out 0).trans (show _ = some (Value.slice none 0 0) from rfl); obtain ⟨zN0_1, zN1_1, zN2_1, zN3_1, zN4_1, zN5_1, zN6_1, zN7_1⟩ := cells8 HN1.out; have yZ1 := blk_frozen HZ1.out 0; have yO1 := blk_frozen HO1.out 0) | (have _t := HB1; go_at_call 22; (with_reducible refine (hmay _ (Kd.C_below HC.out HB1.out)).mono ?_); rintro e w2 ⟨rfl, hb⟩; have HB2 := Aside0.mk (below_step HB1.out hb); have HF2 := Aside0.mk (blk_below HF1.out hb); have HZ2 := Aside0.mk (blk_below HZ1.out hb); have HO2 := Aside0.mk (blk_below HO1.out hb); have HN2 := Aside0.mk (blk_below HN1.out hb); have HR2 := Aside0.mk (Kd.R_below HR1.out hb); clear hb; have zF2 := (blk_cell HF2.out 0).trans (show _ = some (Value.slice A l.length c) from rfl); have zZ2 := (blk_cell HZ2.out 0).trans (show _ = some (Value.slice none 0 0) from rfl); have zO2 := (blk_cell HO2.out 0).trans (show _ = some (Value.slice (some ⟨g, 0, none⟩) l.length l.length) from rfl); obtain ⟨zN0_2, zN1_2, zN2_2, zN3_2, zN4_2, zN5_2, zN6_2, zN7_2⟩ := cells8 HN2.out; have yZ2 := blk_frozen HZ2.out 0; have yO2 := blk_frozen HO2.out 0) | (have _t := HB2; go_at_call 25; (with_reducible refine (hone _).mono ?_); rintro e w3 ⟨rfl, hb⟩; have HB3 := Aside0.mk (below_step HB2.out hb); have HF3 := Aside0.mk (blk_below HF2.out hb); have HZ3 := Aside0.mk (blk_below HZ2.out hb); have HO3 := Aside0.mk (blk_below HO2.out hb); have HN3 := Aside0.mk (blk_below HN2.out hb); have HR3 := Aside0.mk (Kd.R_below HR2.out hb); clear hb; have zF3 := (blk_cell HF3.out 0).trans (show _ = some (Value.slice A l.length c) from rfl); have zZ3 := (blk_cell HZ3.out 0).trans (show _ = some (Value.slice none 0 0) from rfl); have zO3 := (blk_cell HO3.out 0).trans (show _ = some (Value.slice (some ⟨g, 0, none⟩) l.length l.length) from rfl); obtain ⟨zN0_3, zN1_3, zN2_3, zN3_3, zN4_3, zN5_3, zN6_3, zN7_3⟩ := cells8 HN3.out; have yZ3 := blk_frozen HZ3.out 0; have yO3 := blk_frozen HO3.out 0) | (have _t := HB3; go_at_call 32; (with_reducible refine (hat _ (Kd.C_below HC.out HB3.out)).mono ?_); rintro e w4 ⟨rfl, hb⟩; have HB4 := Aside0.mk (below_step HB3.out hb); have HF4 := Aside0.mk (blk_below HF3.out hb); have HZ4 := Aside0.mk (blk_below HZ3.out hb); have HO4 := Aside0.mk (blk_below HO3.out hb); have HN4 := Aside0.mk (blk_below HN3.out hb); have HR4 := Aside0.mk (Kd.R_below HR3.out hb); clear hb; have zF4 := (blk_cell HF4.out 0).trans (show _ = some (Value.slice A l.length c) from rfl); have zZ4 := (blk_cell HZ4.out 0).trans (show _ = some (Value.slice none 0 0) from rfl); have zO4 := (blk_cell HO4.out 0).trans (show _ = some (Value.slice (some ⟨g, 0, none⟩) l.length l.length) from rfl); obtain ⟨zN0_4, zN1_4, zN2_4, zN3_4, zN4_4, zN5_4, zN6_4, zN7_4⟩ := cells8 HN4.out; have yZ4 := blk_frozen HZ4.out 0; have yO4 := blk_frozen HO4.out 0))
        refine bodyPost_ret (results_list (rs := [.cell 4 24, .tmp 5]) rfl (by simp) (.cell (w.heap.size + 2) 24 #[.slice (some ⟨g, 0, none⟩) l.length l.length] (0, 0) _ rfl (blk_put HZ4.out 0 _ rfl) Try.underlying24 rfl fs_size (.tmp .nil))) rfl ?_
        exact ⟨some ⟨g, 0, none⟩, l.length, by rw [HG.out]; rfl, by rw [HG.out]; exact ⟨Kd.R_lower (R_past HR4.out HZ4.out _) (by simp only [World.size_alloc]; omega)⟩, HB4.out.setCell (p := ⟨w.heap.size + 2, 0, none⟩) (by show w.heap.size ≤ w.heap.size + 2; omega) _⟩
      | false =>
        rw [hh] at hat
        cases hsb : standsB l n with
        | false =>
          rw [hsb] at hst
          have HG := Aside0.mk (fsPut_9 hmo hh hsb)
          clear hmo hh hsb
          generalize fsIdx l n.f0 = i at *
          go_enter Try.func12, Try.ntmps12
          go_wp2_with (first | (have _t := HB0; go_at_call 31; (with_reducible refine (hown _ (Kd.C_below HC.out HB0.out)).mono ?_); rintro e w1 ⟨g, rfl, hR, hb⟩; have HB1 := Aside0.mk (below_alloc (below_step HB0.out hb) (.cells #[Value.slice (some ⟨g, 0, none⟩) l.length l.length] 24)); have HR1 := Aside0.mk (Kd.R_alloc hR (.cells #[Value.slice (some ⟨g, 0, none⟩) l.length l.length] 24)); have HO1 := Aside0.mk (heap_alloc_new w1 (.cells #[Value.slice (some ⟨g, 0, none⟩) l.length l.length] 24)); have HF1 := Aside0.mk (blk_alloc (blk_below HF0.out hb) (.cells #[Value.slice (some ⟨g, 0, none⟩) l.length l.length] 24)); have HZ1 := Aside0.mk (blk_alloc (blk_below HZ0.out hb) (.cells #[Value.slice (some ⟨g, 0, none⟩) l.length l.length] 24)); have HN1 := Aside0.mk (blk_alloc (blk_below HN0.out hb) (.cells #[Value.slice (some ⟨g, 0, none⟩) l.length l.length] 24)); have HLT := Aside0.mk (blk_lt (blk_below HZ0.out hb)); clear hb hR; have zF1 := (blk_cell HF1.out 0).trans (show _ = some (Value.slice A l.length c) from rfl); have zZ1 := (blk_cell HZ1.out 0).trans (show _ = some (Value.slice none 0 0) from rfl); obtain ⟨zN0_1, zN1_1, zN2_1, zN3_1, zN4_1, zN5_1, zN6_1, zN7_1⟩ := cells8 HN1.out; have yZ1 := blk_frozen HZ1.out 0; have yO1 := blk_frozen HO1.out 0) | (have _t := HB1; go_at_call 22; (with_reducible refine (hmay _ (Kd.C_below HC.out HB1.out)).mono ?_); rintro e w2 ⟨rfl, hb⟩; have HB2 := Aside0.mk (below_step HB1.out hb); have HF2 := Aside0.mk (blk_below HF1.out hb); have HZ2 := Aside0.mk (blk_below HZ1.out hb); have HO2 := Aside0.mk (blk_below HO1.out hb); have HN2 := Aside0.mk (blk_below HN1.out hb); have HR2 := Aside0.mk (Kd.R_below HR1.out hb); clear hb; have zF2 := (blk_cell HF2.out 0).trans (show _ = some (Value.slice A l.length c) from rfl); have zZ2 := (blk_cell HZ2.out 0).trans (show _ = some (Value.slice none 0 0) from rfl); have zO2 := (blk_cell HO2.out 0).trans (show _ = some (Value.slice (some ⟨g, 0, none⟩) l.length l.length) from rfl); obtain ⟨zN0_2, zN1_2, zN2_2, zN3_2, zN4_2, zN5_2, zN6_2, zN7_2⟩ := cells8 HN2.out; have yZ2 := blk_frozen HZ2.out 0; have yO2 := blk_frozen HO2.out 0) | (have _t := HB2; go_at_call 25; (with_reducible refine (hone _).mono ?_); rintro e w3 ⟨rfl, hb⟩; have HB3 := Aside0.mk (below_step HB2.out hb); have HF3 := Aside0.mk (blk_below HF2.out hb); have HZ3 := Aside0.mk (blk_below HZ2.out hb); have HO3 := Aside0.mk (blk_below HO2.out hb); have HN3 := Aside0.mk (blk_below HN2.out hb); have HR3 := Aside0.mk (Kd.R_below HR2.out hb); clear hb; have zF3 := (blk_cell HF3.out 0).trans (show _ = some (Value.slice A l.length c) from rfl); have zZ3 := (blk_cell HZ3.out 0).trans (show _ = some (Value.slice none 0 0) from rfl); have zO3 := (blk_cell HO3.out 0).trans (show _ = some (Value.slice (some ⟨g, 0, none⟩) l.length l.length) from rfl); obtain ⟨zN0_3, zN1_3, zN2_3, zN3_3, zN4_3, zN5_3, zN6_3, zN7_3⟩ := cells8 HN3.out; have yZ3 := blk_frozen HZ3.out 0; have yO3 := blk_frozen HO3.out 0) | (have _t := HB3; go_at_call 32; (with_reducible refine (hat _ (Kd.C_below HC.out HB3.out)).mono ?_); rintro e w4 ⟨rfl, hb⟩; have HB4 := Aside0.mk (below_step HB3.out hb); have HF4 := Aside0.mk (blk_below HF3.out hb); have HZ4 := Aside0.mk (blk_below HZ3.out hb); have HO4 := Aside0.mk (blk_below HO3.out hb); have HN4 := Aside0.mk (blk_below HN3.out hb); have HR4 := Aside0.mk (Kd.R_below HR3.out hb); clear hb; have zF4 := (blk_cell HF4.out 0).trans (show _ = some (Value.slice A l.length c) from rfl); have zZ4 := (blk_cell HZ4.out 0).trans (show _ = some (Value.slice none 0 0) from rfl); have zO4 := (blk_cell HO4.out 0).trans (show _ = some (Value.slice (some ⟨g, 0, none⟩) l.length l.length) from rfl); obtain ⟨zN0_4, zN1_4, zN2_4, zN3_4, zN4_4, zN5_4, zN6_4, zN7_4⟩ := cells8 HN4.out; have yZ4 := blk_frozen HZ4.out 0; have yO4 := blk_frozen HO4.out 0) | (have _t := HB4; go_at_call 33; (with_reducible refine (hst _ (Kd.C_below HC.out HB4.out)).mono ?_); rintro e w5 ⟨rfl, hb⟩; have HB5 := Aside0.mk (below_step HB4.out hb); have HF5 := Aside0.mk (blk_below HF4.out hb); have HZ5 := Aside0.mk (blk_below HZ4.out hb); have HO5 := Aside0.mk (blk_below HO4.out hb); have HN5 := Aside0.mk (blk_below HN4.out hb); have HR5 := Aside0.mk (Kd.R_below HR4.out hb); clear hb; have zF5 := (blk_cell HF5.out 0).trans (show _ = some (Value.slice A l.length c) from rfl); have zZ5 := (blk_cell HZ5.out 0).trans (show _ = some (Value.slice none 0 0) from rfl); have zO5 := (blk_cell HO5.out 0).trans (show _ = some (Value.slice (some ⟨g, 0, none⟩) l.length l.length) from rfl); obtain ⟨zN0_5, zN1_5, zN2_5, zN3_5, zN4_5, zN5_5, zN6_5, zN7_5⟩ := cells8 HN5.out; have yZ5 := blk_frozen HZ5.out 0; have yO5 := blk_frozen HO5.out 0))
          refine bodyPost_ret (results_list (rs := [.cell 4 24, .tmp 5]) rfl (by simp) (.cell (w.heap.size + 2) 24 #[.slice (some ⟨g, 0, none⟩) l.length l.length] (0, 0) _ rfl (blk_put HZ5.out 0 _ rfl) Try.underlying24 rfl fs_size (.tmp .nil))) rfl ?_
          exact ⟨some ⟨g, 0, none⟩, l.length, by rw [HG.out]; rfl, by rw [HG.out]; exact ⟨Kd.R_lower (R_past HR5.out HZ5.out _) (by simp only [World.size_alloc]; omega)⟩, HB5.out.setCell (p := ⟨w.heap.size + 2, 0, none⟩) (by show w.heap.size ≤ w.heap.size + 2; omega) _⟩
        | true =>
          rw [hsb] at hst
          by_cases h20 : l.length = 20
          · have HG := Aside0.mk (fsPut_8 hmo hh hsb h20)
            clear hmo hh hsb
            generalize fsIdx l n.f0 = i at *
            have h20i : ((l.length : Int) == 20) = true := beq_iff_eq.2 (by omega)
            have h20n : (l.length == 20) = true := beq_iff_eq.2 h20
            have h20d : decide (l.length = 20) = true := decide_eq_true h20
            clear h20
            go_enter Try.func12, Try.ntmps12
            go_wp2_with (first | (have _t := HB0; go_at_call 31; (with_reducible refine (hown _ (Kd.C_below HC.out HB0.out)).mono ?_); rintro e w1 ⟨g, rfl, hR, hb⟩; have HB1 := Aside0.mk (below_alloc (below_step HB0.out hb) (.cells #[Value.slice (some ⟨g, 0, none⟩) l.length l.length] 24)); have HR1 := Aside0.mk (Kd.R_alloc hR (.cells #[Value.slice (some ⟨g, 0, none⟩) l.length l.length] 24)); have HO1 := Aside0.mk (heap_alloc_new w1 (.cells #[Value.slice (some ⟨g, 0, none⟩) l.length l.length] 24)); have HF1 := Aside0.mk (blk_alloc (blk_below HF0.out hb) (.cells #[Value.slice (some ⟨g, 0, none⟩) l.length l.length] 24)); have HZ1 := Aside0.mk (blk_alloc (blk_below HZ0.out hb) (.cells #[Value.slice (some ⟨g, 0, none⟩) l.length l.length] 24)); have HN1 := Aside0.mk (blk_alloc (blk_below HN0.out hb) (.cells #[Value.slice (some ⟨g, 0, none⟩) l.length l.length] 24)); have HLT := Aside0.mk (blk_lt (blk_below HZ0.out hb)); clear hb hR; have zF1 := (blk_cell HF1.out 0).trans (show _ = some (Value.slice A l.length c) from rfl); have zZ1 := (blk_cell HZ1.out 0).trans (show _ = some (Value.slice none 0 0) from rfl); obtain ⟨zN0_1, zN1_1, zN2_1, zN3_1, zN4_1, zN5_1, zN6_1, zN7_1⟩ := cells8 HN1.out; have yZ1 := blk_frozen HZ1.out 0; have yO1 := blk_frozen HO1.out 0) | (have _t := HB1; go_at_call 22; (with_reducible refine (hmay _ (Kd.C_below HC.out HB1.out)).mono ?_); rintro e w2 ⟨rfl, hb⟩; have HB2 := Aside0.mk (below_step HB1.out hb); have HF2 := Aside0.mk (blk_below HF1.out hb); have HZ2 := Aside0.mk (blk_below HZ1.out hb); have HO2 := Aside0.mk (blk_below HO1.out hb); have HN2 := Aside0.mk (blk_below HN1.out hb); have HR2 := Aside0.mk (Kd.R_below HR1.out hb); clear hb; have zF2 := (blk_cell HF2.out 0).trans (show _ = some (Value.slice A l.length c) from rfl); have zZ2 := (blk_cell HZ2.out 0).trans (show _ = some (Value.slice none 0 0) from rfl); have zO2 := (blk_cell HO2.out 0).trans (show _ = some (Value.slice (some ⟨g, 0, none⟩) l.length l.length) from rfl); obtain ⟨zN0_2, zN1_2, zN2_2, zN3_2, zN4_2, zN5_2, zN6_2, zN7_2⟩ := cells8 HN2.out; have yZ2 := blk_frozen HZ2.out 0; have yO2 := blk_frozen HO2.out 0) | (have _t := HB2; go_at_call 25; (with_reducible refine (hone _).mono ?_); rintro e w3 ⟨rfl, hb⟩; have HB3 := Aside0.mk (below_step HB2.out hb); have HF3 := Aside0.mk (blk_below HF2.out hb); have HZ3 := Aside0.mk (blk_below HZ2.out hb); have HO3 := Aside0.mk (blk_below HO2.out hb); have HN3 := Aside0.mk (blk_below HN2.out hb); have HR3 := Aside0.mk (Kd.R_below HR2.out hb); clear hb; have zF3 := (blk_cell HF3.out 0).trans (show _ = some (Value.slice A l.length c) from rfl); have zZ3 := (blk_cell HZ3.out 0).trans (show _ = some (Value.slice none 0 0) from rfl); have zO3 := (blk_cell HO3.out 0).trans (show _ = some (Value.slice (some ⟨g, 0, none⟩) l.length l.length) from rfl); obtain ⟨zN0_3, zN1_3, zN2_3, zN3_3, zN4_3, zN5_3, zN6_3, zN7_3⟩ := cells8 HN3.out; have yZ3 := blk_frozen HZ3.out 0; have yO3 := blk_frozen HO3.out 0) | (have _t := HB3; go_at_call 32; (with_reducible refine (hat _ (Kd.C_below HC.out HB3.out)).mono ?_); rintro e w4 ⟨rfl, hb⟩; have HB4 := Aside0.mk (below_step HB3.out hb); have HF4 := Aside0.mk (blk_below HF3.out hb); have HZ4 := Aside0.mk (blk_below HZ3.out hb); have HO4 := Aside0.mk (blk_below HO3.out hb); have HN4 := Aside0.mk (blk_below HN3.out hb); have HR4 := Aside0.mk (Kd.R_below HR3.out hb); clear hb; have zF4 := (blk_cell HF4.out 0).trans (show _ = some (Value.slice A l.length c) from rfl); have zZ4 := (blk_cell HZ4.out 0).trans (show _ = some (Value.slice none 0 0) from rfl); have zO4 := (blk_cell HO4.out 0).trans (show _ = some (Value.slice (some ⟨g, 0, none⟩) l.length l.length) from rfl); obtain ⟨zN0_4, zN1_4, zN2_4, zN3_4, zN4_4, zN5_4, zN6_4, zN7_4⟩ := cells8 HN4.out; have yZ4 := blk_frozen HZ4.out 0; have yO4 := blk_frozen HO4.out 0) | (have _t := HB4; go_at_call 33; (with_reducible refine (hst _ (Kd.C_below HC.out HB4.out)).mono ?_); rintro e w5 ⟨rfl, hb⟩; have HB5 := Aside0.mk (below_step HB4.out hb); have HF5 := Aside0.mk (blk_below HF4.out hb); have HZ5 := Aside0.mk (blk_below HZ4.out hb); have HO5 := Aside0.mk (blk_below HO4.out hb); have HN5 := Aside0.mk (blk_below HN4.out hb); have HR5 := Aside0.mk (Kd.R_below HR4.out hb); clear hb; have zF5 := (blk_cell HF5.out 0).trans (show _ = some (Value.slice A l.length c) from rfl); have zZ5 := (blk_cell HZ5.out 0).trans (show _ = some (Value.slice none 0 0) from rfl); have zO5 := (blk_cell HO5.out 0).trans (show _ = some (Value.slice (some ⟨g, 0, none⟩) l.length l.length) from rfl); obtain ⟨zN0_5, zN1_5, zN2_5, zN3_5, zN4_5, zN5_5, zN6_5, zN7_5⟩ := cells8 HN5.out; have yZ5 := blk_frozen HZ5.out 0; have yO5 := blk_frozen HO5.out 0))
            refine bodyPost_ret (results_list (rs := [.cell 4 24, .tmp 5]) rfl (by simp) (.cell (w.heap.size + 2) 24 #[.slice (some ⟨g, 0, none⟩) l.length l.length] (0, 0) _ rfl (blk_put HZ5.out 0 _ rfl) Try.underlying24 rfl fs_size (.tmp .nil))) rfl ?_
            exact ⟨some ⟨g, 0, none⟩, l.length, by rw [HG.out]; rfl, by rw [HG.out]; exact ⟨Kd.R_lower (R_past HR5.out HZ5.out _) (by simp only [World.size_alloc]; omega)⟩, HB5.out.setCell (p := ⟨w.heap.size + 2, 0, none⟩) (by show w.heap.size ≤ w.heap.size + 2; omega) _⟩
          · have hile := fsIdx_le l n.f0
            have HG := Aside0.mk (fsPut_0 hmo hh hsb h20)
            clear hmo hh hsb
            generalize fsIdx l n.f0 = i at *
            have h20i : ((l.length : Int) == 20) = false := beq_eq_false_iff_ne.2 (by omega)
            have h20n : (l.length == 20) = false := beq_eq_false_iff_ne.2 h20
            have h20d : decide (l.length = 20) = false := decide_eq_false h20
            clear h20
            have HG2 := HG
            go_enter Try.func12, Try.ntmps12
            obtain ⟨m6, hL6⟩ : ∃ m6, (l.take i ++ n :: l.drop i).length = m6 := ⟨_, rfl⟩
            have HL6 := Aside0.mk hL6
            clear hL6
            go_upto_region 11 with (first | (have _t := HB0; go_at_call 31; (with_reducible refine (hown _ (Kd.C_below HC.out HB0.out)).mono ?_); rintro e w1 ⟨g, rfl, hR, hb⟩; have HB1 := Aside0.mk (below_alloc (below_step HB0.out hb) (.cells #[Value.slice (some ⟨g, 0, none⟩) l.length l.length] 24)); have HR1 := Aside0.mk (Kd.R_alloc hR (.cells #[Value.slice (some ⟨g, 0, none⟩) l.length l.length] 24)); have HO1 := Aside0.mk (heap_alloc_new w1 (.cells #[Value.slice (some ⟨g, 0, none⟩) l.length l.length] 24)); have HF1 := Aside0.mk (blk_alloc (blk_below HF0.out hb) (.cells #[Value.slice (some ⟨g, 0, none⟩) l.length l.length] 24)); have HZ1 := Aside0.mk (blk_alloc (blk_below HZ0.out hb) (.cells #[Value.slice (some ⟨g, 0, none⟩) l.length l.length] 24)); have HN1 := Aside0.mk (blk_alloc (blk_below HN0.out hb) (.cells #[Value.slice (some ⟨g, 0, none⟩) l.length l.length] 24)); have HLT := Aside0.mk (blk_lt (blk_below HZ0.out hb)); clear hb hR; have zF1 := (blk_cell HF1.out 0).trans (show _ = some (Value.slice A l.length c) from rfl); have zZ1 := (blk_cell HZ1.out 0).trans (show _ = some (Value.slice none 0 0) from rfl); obtain ⟨zN0_1, zN1_1, zN2_1, zN3_1, zN4_1, zN5_1, zN6_1, zN7_1⟩ := cells8 HN1.out; have yZ1 := blk_frozen HZ1.out 0; have yO1 := blk_frozen HO1.out 0) | (have _t := HB1; go_at_call 22; (with_reducible refine (hmay _ (Kd.C_below HC.out HB1.out)).mono ?_); rintro e w2 ⟨rfl, hb⟩; have HB2 := Aside0.mk (below_step HB1.out hb); have HF2 := Aside0.mk (blk_below HF1.out hb); have HZ2 := Aside0.mk (blk_below HZ1.out hb); have HO2 := Aside0.mk (blk_below HO1.out hb); have HN2 := Aside0.mk (blk_below HN1.out hb); have HR2 := Aside0.mk (Kd.R_below HR1.out hb); clear hb; have zF2 := (blk_cell HF2.out 0).trans (show _ = some (Value.slice A l.length c) from rfl); have zZ2 := (blk_cell HZ2.out 0).trans (show _ = some (Value.slice none 0 0) from rfl); have zO2 := (blk_cell HO2.out 0).trans (show _ = some (Value.slice (some ⟨g, 0, none⟩) l.length l.length) from rfl); obtain ⟨zN0_2, zN1_2, zN2_2, zN3_2, zN4_2, zN5_2, zN6_2, zN7_2⟩ := cells8 HN2.out; have yZ2 := blk_frozen HZ2.out 0; have yO2 := blk_frozen HO2.out 0) | (have _t := HB2; go_at_call 25; (with_reducible refine (hone _).mono ?_); rintro e w3 ⟨rfl, hb⟩; have HB3 := Aside0.mk (below_step HB2.out hb); have HF3 := Aside0.mk (blk_below HF2.out hb); have HZ3 := Aside0.mk (blk_below HZ2.out hb); have HO3 := Aside0.mk (blk_below HO2.out hb); have HN3 := Aside0.mk (blk_below HN2.out hb); have HR3 := Aside0.mk (Kd.R_below HR2.out hb); clear hb; have zF3 := (blk_cell HF3.out 0).trans (show _ = some (Value.slice A l.length c) from rfl); have zZ3 := (blk_cell HZ3.out 0).trans (show _ = some (Value.slice none 0 0) from rfl); have zO3 := (blk_cell HO3.out 0).trans (show _ = some (Value.slice (some ⟨g, 0, none⟩) l.length l.length) from rfl); obtain ⟨zN0_3, zN1_3, zN2_3, zN3_3, zN4_3, zN5_3, zN6_3, zN7_3⟩ := cells8 HN3.out; have yZ3 := blk_frozen HZ3.out 0; have yO3 := blk_frozen HO3.out 0) | (have _t := HB3; go_at_call 32; (with_reducible refine (hat _ (Kd.C_below HC.out HB3.out)).mono ?_); rintro e w4 ⟨rfl, hb⟩; have HB4 := Aside0.mk (below_step HB3.out hb); have HF4 := Aside0.mk (blk_below HF3.out hb); have HZ4 := Aside0.mk (blk_below HZ3.out hb); have HO4 := Aside0.mk (blk_below HO3.out hb); have HN4 := Aside0.mk (blk_below HN3.out hb); have HR4 := Aside0.mk (Kd.R_below HR3.out hb); clear hb; have zF4 := (blk_cell HF4.out 0).trans (show _ = some (Value.slice A l.length c) from rfl); have zZ4 := (blk_cell HZ4.out 0).trans (show _ = some (Value.slice none 0 0) from rfl); have zO4 := (blk_cell HO4.out 0).trans (show _ = some (Value.slice (some ⟨g, 0, none⟩) l.length l.length) from rfl); obtain ⟨zN0_4, zN1_4, zN2_4, zN3_4, zN4_4, zN5_4, zN6_4, zN7_4⟩ := cells8 HN4.out; have yZ4 := blk_frozen HZ4.out 0; have yO4 := blk_frozen HO4.out 0) | (have _t := HB4; go_at_call 33; (with_reducible refine (hst _ (Kd.C_below HC.out HB4.out)).mono ?_); rintro e w5 ⟨rfl, hb⟩; have HB5 := Aside0.mk (below_step HB4.out hb); have HF5 := Aside0.mk (blk_below HF4.out hb); have HZ5 := Aside0.mk (blk_below HZ4.out hb); have HO5 := Aside0.mk (blk_below HO4.out hb); have HN5 := Aside0.mk (blk_below HN4.out hb); have HR5 := Aside0.mk (Kd.R_below HR4.out hb); clear hb; have zF5 := (blk_cell HF5.out 0).trans (show _ = some (Value.slice A l.length c) from rfl); have zZ5 := (blk_cell HZ5.out 0).trans (show _ = some (Value.slice none 0 0) from rfl); have zO5 := (blk_cell HO5.out 0).trans (show _ = some (Value.slice (some ⟨g, 0, none⟩) l.length l.length) from rfl); obtain ⟨zN0_5, zN1_5, zN2_5, zN3_5, zN4_5, zN5_5, zN6_5, zN7_5⟩ := cells8 HN5.out; have yZ5 := blk_frozen HZ5.out 0; have yO5 := blk_frozen HO5.out 0))
            have cN5 := Kd.R_reads' (R_of_raw (base := 0) (l := [n]) (rest := []) (cap := 1) (heap_alloc_new w5 (.cells #[.string n.f0, .string n.f1, .int .u8 n.f2, .int .i64 n.f3, .int .i64 n.f4, .int .i64 n.f5, .int .i64 n.f6, .string n.f7] 26)) (Nat.zero_le _) (Nat.le_refl _) (by decide) rfl)
            have HCN := Aside0.mk cN5.2.2
            have hRA := Kd.R_alloc HR5.out (.cells #[.string n.f0, .string n.f1, .int .u8 n.f2, .int .i64 n.f3, .int .i64 n.f4, .int .i64 n.f5, .int .i64 n.f6, .string n.f7] 26)
            obtain ⟨_, hgg, _⟩ := raw_of_R hRA
            have HBA := Aside0.mk (below_alloc HB5.out (.cells #[.string n.f0, .string n.f1, .int .u8 n.f2, .int .i64 n.f3, .int .i64 n.f4, .int .i64 n.f5, .int .i64 n.f6, .string n.f7] 26))
            have HZA := Aside0.mk (blk_alloc HZ5.out (.cells #[.string n.f0, .string n.f1, .int .u8 n.f2, .int .i64 n.f3, .int .i64 n.f4, .int .i64 n.f5, .int .i64 n.f6, .string n.f7] 26))
            have HOA := Aside0.mk (blk_alloc HO5.out (.cells #[.string n.f0, .string n.f1, .int .u8 n.f2, .int .i64 n.f3, .int .i64 n.f4, .int .i64 n.f5, .int .i64 n.f6, .string n.f7] 26))
            have hZg := blk_ne HZA.out hgg (by decide)
            have hOg := blk_ne HOA.out hgg (by decide)
            have hle5 : w.heap.size ≤ (w5.alloc (.cells #[.string n.f0, .string n.f1, .int .u8 n.f2, .int .i64 n.f3, .int .i64 n.f4, .int .i64 n.f5, .int .i64 n.f6, .string n.f7] 26)).heap.size := HBA.out.size
            have hins := insert.at_ (w5.alloc (.cells #[.string n.f0, .string n.f1, .int .u8 n.f2, .int .i64 n.f3, .int .i64 n.f4, .int .i64 n.f5, .int .i64 n.f6, .string n.f7] 26)) (w5.alloc (.cells #[.string n.f0, .string n.f1, .int .u8 n.f2, .int .i64 n.f3, .int .i64 n.f4, .int .i64 n.f5, .int .i64 n.f6, .string n.f7] 26)) w.heap.size g l i n (some ⟨w5.heap.size, 0, none⟩) 1 (Kd.R_lower hRA (by rw [World.size_alloc, World.size_alloc, World.size_alloc]; omega)) HCN.out hile hl (Below.refl _ _) hle5
            have HRA := Aside0.mk hRA
            clear hRA hgg cN5
            have HXX := Aside0.mk (And.intro hZg (And.intro hOg hle5))
            clear hZg hOg hle5
            go_wp2_with (first | (go_at_call 34; refine hins.mono ?_; rintro e w6 ⟨v6, rfl, hR6, hb6, hk6⟩; obtain ⟨A6, c6, hv6⟩ := Kd.R_slice hR6; rw [HL6.out] at hv6; subst hv6; have HR6 := Aside0.mk hR6; have HB6 := Aside0.mk (HBA.out.trans hb6); have HZ6 := Aside0.mk ((hk6 _ (blk_lt HZA.out) HXX.out.1).trans HZA.out); have HO6 := Aside0.mk ((hk6 _ (blk_lt HOA.out) HXX.out.2.1).trans HOA.out); clear hR6 hb6 hk6; have zZ6 := (blk_cell HZ6.out 0).trans (show _ = some (Value.slice none 0 0) from rfl); have zO6 := (blk_cell HO6.out 0).trans (show _ = some (Value.slice (some ⟨g, 0, none⟩) l.length l.length) from rfl); have yZ6 := blk_frozen HZ6.out 0; have yO6 := blk_frozen HO6.out 0; have hne6 : w1.heap.size ≠ w.heap.size + 2 := by have := HLT.out; omega))
            have hne7 : w.heap.size + 2 ≠ w1.heap.size := by have := HLT.out; omega
            refine bodyPost_ret (results_list (rs := [.cell 4 24, .tmp 5]) rfl (by simp) (.cell (w.heap.size + 2) 24 #[.slice A6 m6 c6] (0, 0) _ rfl (blk_put (blk_far HZ6.out (p := ⟨w1.heap.size, 0, none⟩) hne7 _) 0 _ rfl) Try.underlying24 rfl fs_size (.tmp .nil))) rfl ?_
            exact ⟨A6, c6, by rw [HG.out]; simp only [HL6.out]; rfl, by rw [HG.out]; show Aside0 (Kd.R kNd 26 _ _ _ (.slice A6 (l.take i ++ n :: l.drop i).length c6) _); rw [HL6.out]; exact ⟨R_past (R_past HR6.out HO6.out (.slice A6 m6 c6)) (blk_far HZ6.out (p := ⟨w1.heap.size, 0, none⟩) hne7 (.slice A6 m6 c6)) (.slice A6 m6 c6)⟩, (HB6.out.setCell (p := ⟨w1.heap.size, 0, none⟩) (by show w.heap.size ≤ w1.heap.size; have := HLT.out; omega) _).setCell (p := ⟨w.heap.size + 2, 0, none⟩) (by show w.heap.size ≤ w.heap.size + 2; omega) _⟩
end Go.Proofs.Ytklbnfpjjcidiaa.X
namespace Go.Proofs.Ytklbnfpjjcidiaa.X
open Go.RowKit Go.Proofs.YtklbnfpjjcidiaaW.PrintWords Go.Proofs.YtklbnfpjjcidiaaW.PrintLast Go.Proofs.YtklbnfpjjcidiaaW.PrintMore
attribute [local go_sem] max2_int min2_int max_two min_two
set_option linter.unusedVariables false
set_option linter.unusedSimpArgs false

open Go.Proofs.YtklbnfpjjcidiaaY
set_option maxRecDepth 100000
noncomputable def fsGrow (l : List Nd) (p d : ByteArray) : List Nd × Int :=
  if fsMay l = true then (match fsIs l p 48, l[fsIdx l p]? with
    | true, some x => if (d.size : Int) > 4000 - (x.f7.size : Int) then (l, 8) else (l.set (fsIdx l p) { x with f7 := x.f7 ++ d }, 0)
    | _, _ => (l, 9)) else (l, 1)
theorem fsGrow_1 {l : List Nd} {p d : ByteArray} (h : fsMay l = false) : fsGrow l p d = (l, 1) := by unfold fsGrow; rw [h]; rfl
theorem fsGrow_9 {l : List Nd} {p d : ByteArray} (h : fsMay l = true) (h2 : fsIs l p 48 = false) : fsGrow l p d = (l, 9) := by unfold fsGrow; rw [h, if_pos rfl, h2]
theorem fsGrow_8 {l : List Nd} {p d : ByteArray} {x : Nd} (h : fsMay l = true) (h2 : fsIs l p 48 = true) (h3 : l[fsIdx l p]? = some x) (h4 : (d.size : Int) > 4000 - (x.f7.size : Int)) : fsGrow l p d = (l, 8) := by unfold fsGrow; rw [h, if_pos rfl, h2, h3]; exact if_pos h4
theorem fsGrow_0 {l : List Nd} {p d : ByteArray} {x : Nd} (h : fsMay l = true) (h2 : fsIs l p 48 = true) (h3 : l[fsIdx l p]? = some x) (h4 : ¬ (d.size : Int) > 4000 - (x.f7.size : Int)) : fsGrow l p d = (l.set (fsIdx l p) { x with f7 := x.f7 ++ d }, 0) := by unfold fsGrow; rw [h, if_pos rfl, h2, h3]; exact if_neg h4
theorem fsIs_at {l : List Nd} {p : ByteArray} {k : Int} (h : fsIs l p k = true) : ∃ x, l[fsIdx l p]? = some x ∧ (x.f0.toList == p.toList) = true ∧ x.f2 = k := by
  unfold fsIs at h
  cases hq : l[fsIdx l p]? with
  | none => rw [hq] at h; cases h
  | some x =>
    rw [hq] at h
    simp only [Bool.and_eq_true, beq_iff_eq] at h
    exact ⟨x, rfl, beq_iff_eq.2 h.1, h.2⟩
theorem flatN_set : ∀ (l : List Nd) (i : Nat) (x : Nd) (s : ByteArray), l[i]? = some x → (flatN l).set (i * 8 + 7) (.string s) = flatN (l.set i { x with f7 := s })
  | [], i, x, s, h => by simp at h
  | y :: l, 0, x, s, h => by
    obtain rfl : y = x := by simpa using h
    rfl
  | y :: l, i + 1, x, s, h => by
    rw [List.set_cons_succ, flatN, flatN, ← flatN_set l i x s (by simpa using h), show (i + 1) * 8 + 7 = (ndC y).length + (i * 8 + 7) by rw [ndC_len]; omega, List.set_append_right _ _ (by omega), Nat.add_sub_cancel_left]
set_option maxHeartbeats 3200000 in
theorem fs_Grow.at_ (A : Option Addr) (c : Nat) (l : List Nd) (p d : ByteArray) (w : World) (hC : Kd.C kNd w A l.length l) (hl : l.length ≤ 1000) (hok : ∀ x ∈ l, okN x = true) :
    Calls Try.prog 14 #[.agg #[.slice A l.length c], .string p, .string d] w fun e w' => ∃ (A' : Option Addr) (c' : Nat), e = .returned (.tuple #[.agg #[.slice A' (fsGrow l p d).1.length c'], .int .i64 (fsGrow l p d).2]) ∧ Aside0 (Kd.R kNd 26 w' w.heap.size (fun _ => True) (.slice A' (fsGrow l p d).1.length c') (fsGrow l p d).1) ∧ Below w.heap.size w w' := by
  have HC := Aside0.mk hC
  have HB0 := Aside0.mk (below_alloc (below_alloc (Below.refl w.heap.size w) (.cells #[.slice A l.length c] 24)) (.cells #[Value.slice none 0 0] 24))
  have HF0 := Aside0.mk (blk_alloc (heap_alloc_new w (.cells #[.slice A l.length c] 24)) (.cells #[Value.slice none 0 0] 24))
  have HZ0 := heap_alloc_new (w.alloc (.cells #[.slice A l.length c] 24)) (.cells #[Value.slice none 0 0] 24)
  rw [World.size_alloc] at HZ0
  have HZ0 := Aside0.mk HZ0
  have zF0 := (blk_cell HF0.out 0).trans (show _ = some (Value.slice A l.length c) from rfl)
  have zZ0 := (blk_cell HZ0.out 0).trans (show _ = some (Value.slice none 0 0) from rfl)
  have hmay := fun W hC' => fs_May.at_ A c l W hC' hl hok
  have hown := fun W hC' => fs_own.at_ A c l W hC' hl
  clear hC
  cases hm : fsMay l with
  | false =>
    rw [hm] at hmay
    have HG := Aside0.mk (fsGrow_1 (p := p) (d := d) hm)
    clear hm
    go_enter Try.func14, Try.ntmps14
    go_wp2_with (first | (have _t := HB0; go_at_call 31; (with_reducible refine (hown _ (Kd.C_below HC.out HB0.out)).mono ?_); rintro e w1 ⟨g, rfl, hR, hb⟩; have HB1 := Aside0.mk (below_alloc (below_step HB0.out hb) (.cells #[Value.slice (some ⟨g, 0, none⟩) l.length l.length] 24)); have HR1 := Aside0.mk (Kd.R_alloc hR (.cells #[Value.slice (some ⟨g, 0, none⟩) l.length l.length] 24)); have HO1 := Aside0.mk (heap_alloc_new w1 (.cells #[Value.slice (some ⟨g, 0, none⟩) l.length l.length] 24)); have HF1 := Aside0.mk (blk_alloc (blk_below HF0.out hb) (.cells #[Value.slice (some ⟨g, 0, none⟩) l.length l.length] 24)); have HZ1 := Aside0.mk (blk_alloc (blk_below HZ0.out hb) (.cells #[Value.slice (some ⟨g, 0, none⟩) l.length l.length] 24)); have HLT := Aside0.mk (blk_lt (blk_below HZ0.out hb)); clear hb hR; have zF1 := (blk_cell HF1.out 0).trans (show _ = some (Value.slice A l.length c) from rfl); have zZ1 := (blk_cell HZ1.out 0).trans (show _ = some (Value.slice none 0 0) from rfl); have yZ1 := blk_frozen HZ1.out 0; have yO1 := blk_frozen HO1.out 0) | (have _t := HB1; go_at_call 22; (with_reducible refine (hmay _ (Kd.C_below HC.out HB1.out)).mono ?_); rintro e w2 ⟨rfl, hb⟩; have HB2 := Aside0.mk (below_step HB1.out hb); have HF2 := Aside0.mk (blk_below HF1.out hb); have HZ2 := Aside0.mk (blk_below HZ1.out hb); have HO2 := Aside0.mk (blk_below HO1.out hb); have HR2 := Aside0.mk (Kd.R_below HR1.out hb); clear hb; have zF2 := (blk_cell HF2.out 0).trans (show _ = some (Value.slice A l.length c) from rfl); have zZ2 := (blk_cell HZ2.out 0).trans (show _ = some (Value.slice none 0 0) from rfl); have zO2 := (blk_cell HO2.out 0).trans (show _ = some (Value.slice (some ⟨g, 0, none⟩) l.length l.length) from rfl); have yZ2 := blk_frozen HZ2.out 0; have yO2 := blk_frozen HO2.out 0))
    refine bodyPost_ret (results_list (rs := [.cell 6 24, .tmp 7]) rfl (by simp) (.cell (w.heap.size + 1) 24 #[.slice (some ⟨g, 0, none⟩) l.length l.length] (0, 0) _ rfl (blk_put HZ2.out 0 _ rfl) Try.underlying24 rfl fs_size (.tmp .nil))) rfl ?_
    have e1_ := HB2.out.setCell (p := ⟨w.heap.size + 1, 0, none⟩) (by show w.heap.size ≤ w.heap.size + 1; omega) (.slice (some ⟨g, 0, none⟩) l.length l.length)
    have e2_ := Kd.R_lower (R_past HR2.out HZ2.out (.slice (some ⟨g, 0, none⟩) l.length l.length)) (show w.heap.size ≤ _ by simp only [World.size_alloc]; omega)
    first | exact ⟨some ⟨g, 0, none⟩, l.length, by rw [HG.out]; rfl, by rw [HG.out]; exact ⟨e2_⟩, e1_⟩ | exact ⟨some ⟨g, 0, none⟩, ⟨l.length, by rw [HG.out]; rfl⟩, by rw [HG.out]; exact ⟨e2_⟩, e1_⟩
  | true =>
    rw [hm] at hmay
    have hs := may_sorted hm
    have hat := fun W hC' => fs_at.at_ A c l p W hs hC' hl
    have his := fun W hC' => fs_is.at_ A c l p 48 W hs hC' hl
    clear hs
    cases hi : fsIs l p 48 with
    | false =>
      rw [hi] at his
      have HG := Aside0.mk (fsGrow_9 (d := d) hm hi)
      clear hm hi hat
      go_enter Try.func14, Try.ntmps14
      go_wp2_with (first | (have _t := HB0; go_at_call 31; (with_reducible refine (hown _ (Kd.C_below HC.out HB0.out)).mono ?_); rintro e w1 ⟨g, rfl, hR, hb⟩; have HB1 := Aside0.mk (below_alloc (below_step HB0.out hb) (.cells #[Value.slice (some ⟨g, 0, none⟩) l.length l.length] 24)); have HR1 := Aside0.mk (Kd.R_alloc hR (.cells #[Value.slice (some ⟨g, 0, none⟩) l.length l.length] 24)); have HO1 := Aside0.mk (heap_alloc_new w1 (.cells #[Value.slice (some ⟨g, 0, none⟩) l.length l.length] 24)); have HF1 := Aside0.mk (blk_alloc (blk_below HF0.out hb) (.cells #[Value.slice (some ⟨g, 0, none⟩) l.length l.length] 24)); have HZ1 := Aside0.mk (blk_alloc (blk_below HZ0.out hb) (.cells #[Value.slice (some ⟨g, 0, none⟩) l.length l.length] 24)); have HLT := Aside0.mk (blk_lt (blk_below HZ0.out hb)); clear hb hR; have zF1 := (blk_cell HF1.out 0).trans (show _ = some (Value.slice A l.length c) from rfl); have zZ1 := (blk_cell HZ1.out 0).trans (show _ = some (Value.slice none 0 0) from rfl); have yZ1 := blk_frozen HZ1.out 0; have yO1 := blk_frozen HO1.out 0) | (have _t := HB1; go_at_call 22; (with_reducible refine (hmay _ (Kd.C_below HC.out HB1.out)).mono ?_); rintro e w2 ⟨rfl, hb⟩; have HB2 := Aside0.mk (below_step HB1.out hb); have HF2 := Aside0.mk (blk_below HF1.out hb); have HZ2 := Aside0.mk (blk_below HZ1.out hb); have HO2 := Aside0.mk (blk_below HO1.out hb); have HR2 := Aside0.mk (Kd.R_below HR1.out hb); clear hb; have zF2 := (blk_cell HF2.out 0).trans (show _ = some (Value.slice A l.length c) from rfl); have zZ2 := (blk_cell HZ2.out 0).trans (show _ = some (Value.slice none 0 0) from rfl); have zO2 := (blk_cell HO2.out 0).trans (show _ = some (Value.slice (some ⟨g, 0, none⟩) l.length l.length) from rfl); have yZ2 := blk_frozen HZ2.out 0; have yO2 := blk_frozen HO2.out 0) | (have _t := HB2; go_at_call 38; (with_reducible refine (his _ (Kd.C_below HC.out HB2.out)).mono ?_); rintro e w3 ⟨rfl, hb⟩; have HB3 := Aside0.mk (below_step HB2.out hb); have HF3 := Aside0.mk (blk_below HF2.out hb); have HZ3 := Aside0.mk (blk_below HZ2.out hb); have HO3 := Aside0.mk (blk_below HO2.out hb); have HR3 := Aside0.mk (Kd.R_below HR2.out hb); clear hb; have zF3 := (blk_cell HF3.out 0).trans (show _ = some (Value.slice A l.length c) from rfl); have zZ3 := (blk_cell HZ3.out 0).trans (show _ = some (Value.slice none 0 0) from rfl); have zO3 := (blk_cell HO3.out 0).trans (show _ = some (Value.slice (some ⟨g, 0, none⟩) l.length l.length) from rfl); have yZ3 := blk_frozen HZ3.out 0; have yO3 := blk_frozen HO3.out 0))
      refine bodyPost_ret (results_list (rs := [.cell 6 24, .tmp 7]) rfl (by simp) (.cell (w.heap.size + 1) 24 #[.slice (some ⟨g, 0, none⟩) l.length l.length] (0, 0) _ rfl (blk_put HZ3.out 0 _ rfl) Try.underlying24 rfl fs_size (.tmp .nil))) rfl ?_
      have e1_ := HB3.out.setCell (p := ⟨w.heap.size + 1, 0, none⟩) (by show w.heap.size ≤ w.heap.size + 1; omega) (.slice (some ⟨g, 0, none⟩) l.length l.length)
      have e2_ := Kd.R_lower (R_past HR3.out HZ3.out (.slice (some ⟨g, 0, none⟩) l.length l.length)) (show w.heap.size ≤ _ by simp only [World.size_alloc]; omega)
      first | exact ⟨some ⟨g, 0, none⟩, l.length, by rw [HG.out]; rfl, by rw [HG.out]; exact ⟨e2_⟩, e1_⟩ | exact ⟨some ⟨g, 0, none⟩, ⟨l.length, by rw [HG.out]; rfl⟩, by rw [HG.out]; exact ⟨e2_⟩, e1_⟩
    | true =>
      rw [hi] at his
      obtain ⟨x, hx, _, _⟩ := fsIs_at hi
      have hlt : fsIdx l p < l.length := (List.getElem?_eq_some_iff.1 hx).1
      have hxs : x.f7.size ≤ 5000 := (okN_iff.1 (hok x (by rw [List.mem_iff_getElem?]; exact ⟨_, hx⟩))).2.2
      have hi0 : (0 : Int) ≤ (fsIdx l p : Int) := by omega
      have hi1 : (fsIdx l p : Int) < (l.length : Int) := by omega
      have hw7 : IntKind.i64.wrap (4000 - (x.f7.size : Int)) = 4000 - (x.f7.size : Int) := by rw [i64_w]; exact wrap_id (by omega) (by omega)
      have HX := Aside0.mk hx
      by_cases hd : (d.size : Int) > 4000 - (x.f7.size : Int)
      · have HG := Aside0.mk (fsGrow_8 hm hi hx hd)
        clear hm hi hx hxs
        generalize fsIdx l p = i at *
        generalize fsHas l p = hasb at *
        go_enter Try.func14, Try.ntmps14
        go_upto_region 7 with (first | (have _t := HB0; go_at_call 31; (with_reducible refine (hown _ (Kd.C_below HC.out HB0.out)).mono ?_); rintro e w1 ⟨g, rfl, hR, hb⟩; have HB1 := Aside0.mk (below_alloc (below_step HB0.out hb) (.cells #[Value.slice (some ⟨g, 0, none⟩) l.length l.length] 24)); have HR1 := Aside0.mk (Kd.R_alloc hR (.cells #[Value.slice (some ⟨g, 0, none⟩) l.length l.length] 24)); have HO1 := Aside0.mk (heap_alloc_new w1 (.cells #[Value.slice (some ⟨g, 0, none⟩) l.length l.length] 24)); have HF1 := Aside0.mk (blk_alloc (blk_below HF0.out hb) (.cells #[Value.slice (some ⟨g, 0, none⟩) l.length l.length] 24)); have HZ1 := Aside0.mk (blk_alloc (blk_below HZ0.out hb) (.cells #[Value.slice (some ⟨g, 0, none⟩) l.length l.length] 24)); have HLT := Aside0.mk (blk_lt (blk_below HZ0.out hb)); clear hb hR; have zF1 := (blk_cell HF1.out 0).trans (show _ = some (Value.slice A l.length c) from rfl); have zZ1 := (blk_cell HZ1.out 0).trans (show _ = some (Value.slice none 0 0) from rfl); have yZ1 := blk_frozen HZ1.out 0; have yO1 := blk_frozen HO1.out 0) | (have _t := HB1; go_at_call 22; (with_reducible refine (hmay _ (Kd.C_below HC.out HB1.out)).mono ?_); rintro e w2 ⟨rfl, hb⟩; have HB2 := Aside0.mk (below_step HB1.out hb); have HF2 := Aside0.mk (blk_below HF1.out hb); have HZ2 := Aside0.mk (blk_below HZ1.out hb); have HO2 := Aside0.mk (blk_below HO1.out hb); have HR2 := Aside0.mk (Kd.R_below HR1.out hb); clear hb; have zF2 := (blk_cell HF2.out 0).trans (show _ = some (Value.slice A l.length c) from rfl); have zZ2 := (blk_cell HZ2.out 0).trans (show _ = some (Value.slice none 0 0) from rfl); have zO2 := (blk_cell HO2.out 0).trans (show _ = some (Value.slice (some ⟨g, 0, none⟩) l.length l.length) from rfl); have yZ2 := blk_frozen HZ2.out 0; have yO2 := blk_frozen HO2.out 0) | (have _t := HB2; go_at_call 38; (with_reducible refine (his _ (Kd.C_below HC.out HB2.out)).mono ?_); rintro e w3 ⟨rfl, hb⟩; have HB3 := Aside0.mk (below_step HB2.out hb); have HF3 := Aside0.mk (blk_below HF2.out hb); have HZ3 := Aside0.mk (blk_below HZ2.out hb); have HO3 := Aside0.mk (blk_below HO2.out hb); have HR3 := Aside0.mk (Kd.R_below HR2.out hb); clear hb; have zF3 := (blk_cell HF3.out 0).trans (show _ = some (Value.slice A l.length c) from rfl); have zZ3 := (blk_cell HZ3.out 0).trans (show _ = some (Value.slice none 0 0) from rfl); have zO3 := (blk_cell HO3.out 0).trans (show _ = some (Value.slice (some ⟨g, 0, none⟩) l.length l.length) from rfl); have yZ3 := blk_frozen HZ3.out 0; have yO3 := blk_frozen HO3.out 0) | (have _t := HB3; go_at_call 32; (with_reducible refine (hat _ (Kd.C_below HC.out HB3.out)).mono ?_); rintro e w4 ⟨rfl, hb⟩; have HB4 := Aside0.mk (below_step HB3.out hb); have HF4 := Aside0.mk (blk_below HF3.out hb); have HZ4 := Aside0.mk (blk_below HZ3.out hb); have HO4 := Aside0.mk (blk_below HO3.out hb); have HR4 := Aside0.mk (Kd.R_below HR3.out hb); clear hb; have zF4 := (blk_cell HF4.out 0).trans (show _ = some (Value.slice A l.length c) from rfl); have zZ4 := (blk_cell HZ4.out 0).trans (show _ = some (Value.slice none 0 0) from rfl); have zO4 := (blk_cell HO4.out 0).trans (show _ = some (Value.slice (some ⟨g, 0, none⟩) l.length l.length) from rfl); have yZ4 := blk_frozen HZ4.out 0; have yO4 := blk_frozen HO4.out 0))
        obtain ⟨ad, rfl, k0, k1, k2, k3, k4, k5, k6, k7⟩ := nd_cells (Kd.C_below HC.out HB4.out) hlt x HX.out
        obtain ⟨a0, a1, a2, a3, a4, a5, a6, a7⟩ := x
        simp only at k0 k1 k2 k3 k4 k5 k6 k7 hw7 hd
        go_wp2_with (fail)
        refine bodyPost_ret (results_list (rs := [.cell 6 24, .tmp 7]) rfl (by simp) (.cell (w.heap.size + 1) 24 #[.slice (some ⟨g, 0, none⟩) l.length l.length] (0, 0) _ rfl (blk_put HZ4.out 0 _ rfl) Try.underlying24 rfl fs_size (.tmp .nil))) rfl ?_
        have e1_ := HB4.out.setCell (p := ⟨w.heap.size + 1, 0, none⟩) (by show w.heap.size ≤ w.heap.size + 1; omega) (.slice (some ⟨g, 0, none⟩) l.length l.length)
        have e2_ := Kd.R_lower (R_past HR4.out HZ4.out (.slice (some ⟨g, 0, none⟩) l.length l.length)) (show w.heap.size ≤ _ by simp only [World.size_alloc]; omega)
        first | exact ⟨some ⟨g, 0, none⟩, l.length, by rw [HG.out]; rfl, by rw [HG.out]; exact ⟨e2_⟩, e1_⟩ | exact ⟨some ⟨g, 0, none⟩, ⟨l.length, by rw [HG.out]; rfl⟩, by rw [HG.out]; exact ⟨e2_⟩, e1_⟩
      · have HG := Aside0.mk (fsGrow_0 hm hi hx hd)
        clear hm hi hx hxs
        generalize fsIdx l p = i at *
        generalize fsHas l p = hasb at *
        go_enter Try.func14, Try.ntmps14
        go_upto_region 7 with (first | (have _t := HB0; go_at_call 31; (with_reducible refine (hown _ (Kd.C_below HC.out HB0.out)).mono ?_); rintro e w1 ⟨g, rfl, hR, hb⟩; have HB1 := Aside0.mk (below_alloc (below_step HB0.out hb) (.cells #[Value.slice (some ⟨g, 0, none⟩) l.length l.length] 24)); have HR1 := Aside0.mk (Kd.R_alloc hR (.cells #[Value.slice (some ⟨g, 0, none⟩) l.length l.length] 24)); have HO1 := Aside0.mk (heap_alloc_new w1 (.cells #[Value.slice (some ⟨g, 0, none⟩) l.length l.length] 24)); have HF1 := Aside0.mk (blk_alloc (blk_below HF0.out hb) (.cells #[Value.slice (some ⟨g, 0, none⟩) l.length l.length] 24)); have HZ1 := Aside0.mk (blk_alloc (blk_below HZ0.out hb) (.cells #[Value.slice (some ⟨g, 0, none⟩) l.length l.length] 24)); have HLT := Aside0.mk (blk_lt (blk_below HZ0.out hb)); clear hb hR; have zF1 := (blk_cell HF1.out 0).trans (show _ = some (Value.slice A l.length c) from rfl); have zZ1 := (blk_cell HZ1.out 0).trans (show _ = some (Value.slice none 0 0) from rfl); have yZ1 := blk_frozen HZ1.out 0; have yO1 := blk_frozen HO1.out 0) | (have _t := HB1; go_at_call 22; (with_reducible refine (hmay _ (Kd.C_below HC.out HB1.out)).mono ?_); rintro e w2 ⟨rfl, hb⟩; have HB2 := Aside0.mk (below_step HB1.out hb); have HF2 := Aside0.mk (blk_below HF1.out hb); have HZ2 := Aside0.mk (blk_below HZ1.out hb); have HO2 := Aside0.mk (blk_below HO1.out hb); have HR2 := Aside0.mk (Kd.R_below HR1.out hb); clear hb; have zF2 := (blk_cell HF2.out 0).trans (show _ = some (Value.slice A l.length c) from rfl); have zZ2 := (blk_cell HZ2.out 0).trans (show _ = some (Value.slice none 0 0) from rfl); have zO2 := (blk_cell HO2.out 0).trans (show _ = some (Value.slice (some ⟨g, 0, none⟩) l.length l.length) from rfl); have yZ2 := blk_frozen HZ2.out 0; have yO2 := blk_frozen HO2.out 0) | (have _t := HB2; go_at_call 38; (with_reducible refine (his _ (Kd.C_below HC.out HB2.out)).mono ?_); rintro e w3 ⟨rfl, hb⟩; have HB3 := Aside0.mk (below_step HB2.out hb); have HF3 := Aside0.mk (blk_below HF2.out hb); have HZ3 := Aside0.mk (blk_below HZ2.out hb); have HO3 := Aside0.mk (blk_below HO2.out hb); have HR3 := Aside0.mk (Kd.R_below HR2.out hb); clear hb; have zF3 := (blk_cell HF3.out 0).trans (show _ = some (Value.slice A l.length c) from rfl); have zZ3 := (blk_cell HZ3.out 0).trans (show _ = some (Value.slice none 0 0) from rfl); have zO3 := (blk_cell HO3.out 0).trans (show _ = some (Value.slice (some ⟨g, 0, none⟩) l.length l.length) from rfl); have yZ3 := blk_frozen HZ3.out 0; have yO3 := blk_frozen HO3.out 0) | (have _t := HB3; go_at_call 32; (with_reducible refine (hat _ (Kd.C_below HC.out HB3.out)).mono ?_); rintro e w4 ⟨rfl, hb⟩; have HB4 := Aside0.mk (below_step HB3.out hb); have HF4 := Aside0.mk (blk_below HF3.out hb); have HZ4 := Aside0.mk (blk_below HZ3.out hb); have HO4 := Aside0.mk (blk_below HO3.out hb); have HR4 := Aside0.mk (Kd.R_below HR3.out hb); clear hb; have zF4 := (blk_cell HF4.out 0).trans (show _ = some (Value.slice A l.length c) from rfl); have zZ4 := (blk_cell HZ4.out 0).trans (show _ = some (Value.slice none 0 0) from rfl); have zO4 := (blk_cell HO4.out 0).trans (show _ = some (Value.slice (some ⟨g, 0, none⟩) l.length l.length) from rfl); have yZ4 := blk_frozen HZ4.out 0; have yO4 := blk_frozen HO4.out 0))
        obtain ⟨ad, rfl, k0, k1, k2, k3, k4, k5, k6, k7⟩ := nd_cells (Kd.C_below HC.out HB4.out) hlt x HX.out
        obtain ⟨a0, a1, a2, a3, a4, a5, a6, a7⟩ := x
        simp only at k0 k1 k2 k3 k4 k5 k6 k7 hw7 hd
        go_upto_region 9 with (fail)
        clear k0 k1 k2 k3 k4 k5 k6 k7
        obtain ⟨rest, hg, hbg, _, _, hrl⟩ := raw_of_R HR4.out
        simp only [World.size_alloc] at hbg
        have hrest : rest = [] := List.eq_nil_of_length_eq_zero (by rw [List.length_append, flatN_len] at hrl; omega)
        rw [hrest, List.append_nil] at hg
        obtain ⟨ad2, he2, _, _, _, _, _, _, _, k7⟩ := nd_cells (Kd.R_reads' HR4.out).2.2 hlt _ HX.out
        obtain rfl := Option.some.inj he2
        simp only [add_plain, Nat.zero_add] at k7
        have y7 := blk_frozen hg (i * 8 + 7)
        have HGG := Aside0.mk hg
        have hgZ := blk_ne HZ4.out hg (by decide)
        have hgO := blk_ne HO4.out hg (by decide)
        clear hg hrl
        go_wp2_with (fail)
        have hZs := blk_far HZ4.out (p := ⟨g, i * 8 + 7, none⟩) hgZ (.string (a7 ++ d))
        have hgs := blk_put HGG.out (i * 8 + 7) (.string (a7 ++ d)) (show _ = (flatN (l.set i ⟨a0, a1, a2, a3, a4, a5, a6, a7 ++ d⟩) ++ []).toArray by rw [List.setIfInBounds_toArray, flatN_set l i _ _ HX.out, List.append_nil])
        have hRs := R_of_raw (base := w.heap.size) (cap := l.length) hgs (by have := HLT.out; have := HB1.out.size; omega) (by rw [List.length_set]; omega) (by unfold maxLen; omega) (by rw [List.append_nil, flatN_len, List.length_set]; omega)
        rw [List.length_set] at hRs
        have e2_ := R_past hRs hZs (.slice (some ⟨g, 0, none⟩) l.length l.length)
        have e1_ := (HB4.out.setCell (p := ⟨g, i * 8 + 7, none⟩) (by show w.heap.size ≤ g; omega) (.string (a7 ++ d))).setCell (p := ⟨w.heap.size + 1, 0, none⟩) (by show w.heap.size ≤ w.heap.size + 1; omega) (.slice (some ⟨g, 0, none⟩) l.length l.length)
        refine bodyPost_ret (results_list (rs := [.cell 6 24, .tmp 7]) rfl (by simp) (.cell (w.heap.size + 1) 24 #[.slice (some ⟨g, 0, none⟩) l.length l.length] (0, 0) _ rfl (blk_put hZs 0 _ rfl) Try.underlying24 rfl fs_size (.tmp .nil))) rfl ?_
        have e3_ : (l.set i ⟨a0, a1, a2, a3, a4, a5, a6, a7 ++ d⟩).length = l.length := List.length_set
        first | exact ⟨some ⟨g, 0, none⟩, l.length, by rw [HG.out]; simp only [e3_]; rfl, by rw [HG.out]; simp only [e3_]; exact ⟨e2_⟩, e1_⟩ | exact ⟨some ⟨g, 0, none⟩, ⟨l.length, by rw [HG.out]; simp only [e3_]; rfl⟩, by rw [HG.out]; exact e2_, e1_⟩
end Go.Proofs.Ytklbnfpjjcidiaa.X
namespace Go.Proofs.Ytklbnfpjjcidiaa.X
open Go.RowKit Go.Proofs.YtklbnfpjjcidiaaW.PrintWords Go.Proofs.YtklbnfpjjcidiaaW.PrintLast Go.Proofs.YtklbnfpjjcidiaaW.PrintMore
attribute [local go_sem] max2_int min2_int max_two min_two
set_option linter.unusedVariables false
set_option linter.unusedSimpArgs false

open Go.Proofs.YtklbnfpjjcidiaaY
set_option maxRecDepth 100000
/-- What Text answers out of what Get has answered. -/
def textOf (r : Nd × Int) : ByteArray × Int := if r.2 = 0 then (if r.1.f2 = 48 then (r.1.f7, 0) else (⟨#[]⟩, 9)) else (⟨#[]⟩, r.2)
noncomputable def fsText (l : List Nd) (p : ByteArray) : ByteArray × Int :=
  textOf (if (fsGet l p).2 = 0 ∧ (fsGet l p).1.f2 = 49 then fsGet l (fsGet l p).1.f1 else fsGet l p)
set_option maxHeartbeats 1600000 in
theorem fs_Text.at_ (A : Option Addr) (c : Nat) (l : List Nd) (p : ByteArray) (w : World) (hC : Kd.C kNd w A l.length l) (hl : l.length ≤ 1000) (hok : ∀ x ∈ l, okN x = true) :
    Calls Try.prog 18 #[.agg #[.slice A l.length c], .string p] w fun e w' => e = .returned (.tuple #[.string (fsText l p).1, .int .i64 (fsText l p).2]) ∧ Below w.heap.size w w' := by
  have HC := Aside0.mk hC
  have HB0 := Aside0.mk (below_alloc (Below.refl w.heap.size w) (.cells #[.slice A l.length c] 24))
  have HF0 := Aside0.mk (heap_alloc_new w (.cells #[.slice A l.length c] 24))
  have zF0 := (blk_cell HF0.out 0).trans (show _ = some (Value.slice A l.length c) from rfl)
  have hget1 := fun W hC' => fs_Get.at_ A c l p W hC' hl hok
  have hget2 := fun W hC' => fs_Get.at_ A c l (fsGet l p).1.f1 W hC' hl hok
  simp only [nodeV] at hget1 hget2
  clear hC
  obtain ⟨T, hT⟩ : ∃ T, fsText l p = T := ⟨_, rfl⟩
  rw [hT]
  unfold fsText at hT
  generalize fsGet l (fsGet l p).1.f1 = r2 at *
  generalize fsGet l p = r1 at *
  obtain ⟨x, e1⟩ := r1
  obtain ⟨y, e2⟩ := r2
  simp only at hget1 hget2 hT
  by_cases he : e1 = 0
  · have b1 : (e1 == 0) = true := beq_iff_eq.2 he
    have b2 : (e1 != 0) = false := by simp only [bne, b1]; rfl
    by_cases hk : x.f2 = 49
    · have c1 : (x.f2 == 49) = true := beq_iff_eq.2 hk
      rw [if_pos ⟨he, hk⟩] at hT
      clear he hk
      by_cases he2 : e2 = 0
      · have d1 : (e2 == 0) = true := beq_iff_eq.2 he2
        have d2 : (e2 != 0) = false := by simp only [bne, d1]; rfl
        by_cases hk2 : y.f2 = 48
        · have f1 : (y.f2 == 48) = true := beq_iff_eq.2 hk2
          have f2 : (y.f2 != 48) = false := by simp only [bne, f1]; rfl
          rw [textOf, if_pos he2, if_pos hk2] at hT
          have HG := Aside0.mk hT.symm
          clear he2 hk2 hT
          go_enter Try.func18, Try.ntmps18
          go_upto_region 4 with (first | (have _t := HB0; go_at_call 16; (with_reducible refine (hget1 _ (Kd.C_below HC.out HB0.out)).mono ?_); rintro e_ w1 ⟨rfl, hb⟩; have HB1 := Aside0.mk (below_alloc (below_step HB0.out hb) (.cells #[.string x.f0, .string x.f1, .int .u8 x.f2, .int .i64 x.f3, .int .i64 x.f4, .int .i64 x.f5, .int .i64 x.f6, .string x.f7] 26)); have HF1 := Aside0.mk (blk_alloc (blk_below HF0.out hb) (.cells #[.string x.f0, .string x.f1, .int .u8 x.f2, .int .i64 x.f3, .int .i64 x.f4, .int .i64 x.f5, .int .i64 x.f6, .string x.f7] 26)); have HN1 := Aside0.mk (heap_alloc_new w1 (.cells #[.string x.f0, .string x.f1, .int .u8 x.f2, .int .i64 x.f3, .int .i64 x.f4, .int .i64 x.f5, .int .i64 x.f6, .string x.f7] 26)); have hlt1 := blk_lt (blk_below HF0.out hb); clear hb; have zF1 := (blk_cell HF1.out 0).trans (show _ = some (Value.slice A l.length c) from rfl); obtain ⟨zN0_1, zN1_1, zN2_1, zN3_1, zN4_1, zN5_1, zN6_1, zN7_1⟩ := cells8 HN1.out) | (have _t := HB1; go_at_call 16; (with_reducible refine (hget2 _ (Kd.C_below HC.out HB1.out)).mono ?_); rintro e_ w2 ⟨rfl, hb⟩; have HB2 := Aside0.mk (below_step HB1.out hb); have HF2 := Aside0.mk (blk_below HF1.out hb); have HN2 := Aside0.mk (blk_below HN1.out hb); clear hb; obtain ⟨zN0_2, zN1_2, zN2_2, zN3_2, zN4_2, zN5_2, zN6_2, zN7_2⟩ := cells8 HN2.out; have yN0_2 := blk_frozen HN2.out 0; have yN1_2 := blk_frozen HN2.out 1; have yN2_2 := blk_frozen HN2.out 2; have yN3_2 := blk_frozen HN2.out 3; have yN4_2 := blk_frozen HN2.out 4; have yN5_2 := blk_frozen HN2.out 5; have yN6_2 := blk_frozen HN2.out 6; have yN7_2 := blk_frozen HN2.out 7))
          have HN3 := store8 HN2.out rfl (.string y.f0) (.string y.f1) (.int .u8 y.f2) (.int .i64 y.f3) (.int .i64 y.f4) (.int .i64 y.f5) (.int .i64 y.f6) (.string y.f7)
          have HB3 := below8 HB2.out (show w.heap.size ≤ w1.heap.size by omega) (.string y.f0) (.string y.f1) (.int .u8 y.f2) (.int .i64 y.f3) (.int .i64 y.f4) (.int .i64 y.f5) (.int .i64 y.f6) (.string y.f7)
          generalize (((((((w2.setCell ⟨w1.heap.size, 0, none⟩ (.string y.f0)).setCell ⟨w1.heap.size, 1, none⟩ (.string y.f1)).setCell ⟨w1.heap.size, 2, none⟩ (.int .u8 y.f2)).setCell ⟨w1.heap.size, 3, none⟩ (.int .i64 y.f3)).setCell ⟨w1.heap.size, 4, none⟩ (.int .i64 y.f4)).setCell ⟨w1.heap.size, 5, none⟩ (.int .i64 y.f5)).setCell ⟨w1.heap.size, 6, none⟩ (.int .i64 y.f6)).setCell ⟨w1.heap.size, 7, none⟩ (.string y.f7) = w3 at *
          have HN3 := Aside0.mk HN3
          have HB3 := Aside0.mk HB3
          obtain ⟨zN0_3, zN1_3, zN2_3, zN3_3, zN4_3, zN5_3, zN6_3, zN7_3⟩ := cells8 HN3.out
          go_wp2_with (fail)
          go_ret2
          exact ⟨by rw [HG.out]; first | done | rfl, HB3.out⟩
        · have f1 : (y.f2 == 48) = false := beq_eq_false_iff_ne.2 hk2
          have f2 : (y.f2 != 48) = true := by simp only [bne, f1]; rfl
          rw [textOf, if_pos he2, if_neg hk2] at hT
          have HG := Aside0.mk hT.symm
          clear he2 hk2 hT
          go_enter Try.func18, Try.ntmps18
          go_upto_region 4 with (first | (have _t := HB0; go_at_call 16; (with_reducible refine (hget1 _ (Kd.C_below HC.out HB0.out)).mono ?_); rintro e_ w1 ⟨rfl, hb⟩; have HB1 := Aside0.mk (below_alloc (below_step HB0.out hb) (.cells #[.string x.f0, .string x.f1, .int .u8 x.f2, .int .i64 x.f3, .int .i64 x.f4, .int .i64 x.f5, .int .i64 x.f6, .string x.f7] 26)); have HF1 := Aside0.mk (blk_alloc (blk_below HF0.out hb) (.cells #[.string x.f0, .string x.f1, .int .u8 x.f2, .int .i64 x.f3, .int .i64 x.f4, .int .i64 x.f5, .int .i64 x.f6, .string x.f7] 26)); have HN1 := Aside0.mk (heap_alloc_new w1 (.cells #[.string x.f0, .string x.f1, .int .u8 x.f2, .int .i64 x.f3, .int .i64 x.f4, .int .i64 x.f5, .int .i64 x.f6, .string x.f7] 26)); have hlt1 := blk_lt (blk_below HF0.out hb); clear hb; have zF1 := (blk_cell HF1.out 0).trans (show _ = some (Value.slice A l.length c) from rfl); obtain ⟨zN0_1, zN1_1, zN2_1, zN3_1, zN4_1, zN5_1, zN6_1, zN7_1⟩ := cells8 HN1.out) | (have _t := HB1; go_at_call 16; (with_reducible refine (hget2 _ (Kd.C_below HC.out HB1.out)).mono ?_); rintro e_ w2 ⟨rfl, hb⟩; have HB2 := Aside0.mk (below_step HB1.out hb); have HF2 := Aside0.mk (blk_below HF1.out hb); have HN2 := Aside0.mk (blk_below HN1.out hb); clear hb; obtain ⟨zN0_2, zN1_2, zN2_2, zN3_2, zN4_2, zN5_2, zN6_2, zN7_2⟩ := cells8 HN2.out; have yN0_2 := blk_frozen HN2.out 0; have yN1_2 := blk_frozen HN2.out 1; have yN2_2 := blk_frozen HN2.out 2; have yN3_2 := blk_frozen HN2.out 3; have yN4_2 := blk_frozen HN2.out 4; have yN5_2 := blk_frozen HN2.out 5; have yN6_2 := blk_frozen HN2.out 6; have yN7_2 := blk_frozen HN2.out 7))
          have HN3 := store8 HN2.out rfl (.string y.f0) (.string y.f1) (.int .u8 y.f2) (.int .i64 y.f3) (.int .i64 y.f4) (.int .i64 y.f5) (.int .i64 y.f6) (.string y.f7)
          have HB3 := below8 HB2.out (show w.heap.size ≤ w1.heap.size by omega) (.string y.f0) (.string y.f1) (.int .u8 y.f2) (.int .i64 y.f3) (.int .i64 y.f4) (.int .i64 y.f5) (.int .i64 y.f6) (.string y.f7)
          generalize (((((((w2.setCell ⟨w1.heap.size, 0, none⟩ (.string y.f0)).setCell ⟨w1.heap.size, 1, none⟩ (.string y.f1)).setCell ⟨w1.heap.size, 2, none⟩ (.int .u8 y.f2)).setCell ⟨w1.heap.size, 3, none⟩ (.int .i64 y.f3)).setCell ⟨w1.heap.size, 4, none⟩ (.int .i64 y.f4)).setCell ⟨w1.heap.size, 5, none⟩ (.int .i64 y.f5)).setCell ⟨w1.heap.size, 6, none⟩ (.int .i64 y.f6)).setCell ⟨w1.heap.size, 7, none⟩ (.string y.f7) = w3 at *
          have HN3 := Aside0.mk HN3
          have HB3 := Aside0.mk HB3
          obtain ⟨zN0_3, zN1_3, zN2_3, zN3_3, zN4_3, zN5_3, zN6_3, zN7_3⟩ := cells8 HN3.out
          go_wp2_with (fail)
          go_ret2
          exact ⟨by rw [HG.out]; first | done | rfl, HB3.out⟩
      · have d1 : (e2 == 0) = false := beq_eq_false_iff_ne.2 he2
        have d2 : (e2 != 0) = true := by simp only [bne, d1]; rfl
        rw [textOf, if_neg he2] at hT
        have HG := Aside0.mk hT.symm
        clear he2 hT
        go_enter Try.func18, Try.ntmps18
        go_upto_region 4 with (first | (have _t := HB0; go_at_call 16; (with_reducible refine (hget1 _ (Kd.C_below HC.out HB0.out)).mono ?_); rintro e_ w1 ⟨rfl, hb⟩; have HB1 := Aside0.mk (below_alloc (below_step HB0.out hb) (.cells #[.string x.f0, .string x.f1, .int .u8 x.f2, .int .i64 x.f3, .int .i64 x.f4, .int .i64 x.f5, .int .i64 x.f6, .string x.f7] 26)); have HF1 := Aside0.mk (blk_alloc (blk_below HF0.out hb) (.cells #[.string x.f0, .string x.f1, .int .u8 x.f2, .int .i64 x.f3, .int .i64 x.f4, .int .i64 x.f5, .int .i64 x.f6, .string x.f7] 26)); have HN1 := Aside0.mk (heap_alloc_new w1 (.cells #[.string x.f0, .string x.f1, .int .u8 x.f2, .int .i64 x.f3, .int .i64 x.f4, .int .i64 x.f5, .int .i64 x.f6, .string x.f7] 26)); have hlt1 := blk_lt (blk_below HF0.out hb); clear hb; have zF1 := (blk_cell HF1.out 0).trans (show _ = some (Value.slice A l.length c) from rfl); obtain ⟨zN0_1, zN1_1, zN2_1, zN3_1, zN4_1, zN5_1, zN6_1, zN7_1⟩ := cells8 HN1.out) | (have _t := HB1; go_at_call 16; (with_reducible refine (hget2 _ (Kd.C_below HC.out HB1.out)).mono ?_); rintro e_ w2 ⟨rfl, hb⟩; have HB2 := Aside0.mk (below_step HB1.out hb); have HF2 := Aside0.mk (blk_below HF1.out hb); have HN2 := Aside0.mk (blk_below HN1.out hb); clear hb; obtain ⟨zN0_2, zN1_2, zN2_2, zN3_2, zN4_2, zN5_2, zN6_2, zN7_2⟩ := cells8 HN2.out; have yN0_2 := blk_frozen HN2.out 0; have yN1_2 := blk_frozen HN2.out 1; have yN2_2 := blk_frozen HN2.out 2; have yN3_2 := blk_frozen HN2.out 3; have yN4_2 := blk_frozen HN2.out 4; have yN5_2 := blk_frozen HN2.out 5; have yN6_2 := blk_frozen HN2.out 6; have yN7_2 := blk_frozen HN2.out 7))
        have HN3 := store8 HN2.out rfl (.string y.f0) (.string y.f1) (.int .u8 y.f2) (.int .i64 y.f3) (.int .i64 y.f4) (.int .i64 y.f5) (.int .i64 y.f6) (.string y.f7)
        have HB3 := below8 HB2.out (show w.heap.size ≤ w1.heap.size by omega) (.string y.f0) (.string y.f1) (.int .u8 y.f2) (.int .i64 y.f3) (.int .i64 y.f4) (.int .i64 y.f5) (.int .i64 y.f6) (.string y.f7)
        generalize (((((((w2.setCell ⟨w1.heap.size, 0, none⟩ (.string y.f0)).setCell ⟨w1.heap.size, 1, none⟩ (.string y.f1)).setCell ⟨w1.heap.size, 2, none⟩ (.int .u8 y.f2)).setCell ⟨w1.heap.size, 3, none⟩ (.int .i64 y.f3)).setCell ⟨w1.heap.size, 4, none⟩ (.int .i64 y.f4)).setCell ⟨w1.heap.size, 5, none⟩ (.int .i64 y.f5)).setCell ⟨w1.heap.size, 6, none⟩ (.int .i64 y.f6)).setCell ⟨w1.heap.size, 7, none⟩ (.string y.f7) = w3 at *
        have HN3 := Aside0.mk HN3
        have HB3 := Aside0.mk HB3
        obtain ⟨zN0_3, zN1_3, zN2_3, zN3_3, zN4_3, zN5_3, zN6_3, zN7_3⟩ := cells8 HN3.out
        go_wp2_with (fail)
        go_ret2
        exact ⟨by rw [HG.out]; first | done | rfl, HB3.out⟩
    · have c1 : (x.f2 == 49) = false := beq_eq_false_iff_ne.2 hk
      rw [if_neg (fun h => hk h.2)] at hT
      by_cases hk2 : x.f2 = 48
      · have f1 : (x.f2 == 48) = true := beq_iff_eq.2 hk2
        have f2 : (x.f2 != 48) = false := by simp only [bne, f1]; rfl
        rw [textOf, if_pos he, if_pos hk2] at hT
        have HG := Aside0.mk hT.symm
        clear hT he hk hk2
        go_enter Try.func18, Try.ntmps18
        go_wp2_with (first | (have _t := HB0; go_at_call 16; (with_reducible refine (hget1 _ (Kd.C_below HC.out HB0.out)).mono ?_); rintro e_ w1 ⟨rfl, hb⟩; have HB1 := Aside0.mk (below_alloc (below_step HB0.out hb) (.cells #[.string x.f0, .string x.f1, .int .u8 x.f2, .int .i64 x.f3, .int .i64 x.f4, .int .i64 x.f5, .int .i64 x.f6, .string x.f7] 26)); have HF1 := Aside0.mk (blk_alloc (blk_below HF0.out hb) (.cells #[.string x.f0, .string x.f1, .int .u8 x.f2, .int .i64 x.f3, .int .i64 x.f4, .int .i64 x.f5, .int .i64 x.f6, .string x.f7] 26)); have HN1 := Aside0.mk (heap_alloc_new w1 (.cells #[.string x.f0, .string x.f1, .int .u8 x.f2, .int .i64 x.f3, .int .i64 x.f4, .int .i64 x.f5, .int .i64 x.f6, .string x.f7] 26)); have hlt1 := blk_lt (blk_below HF0.out hb); clear hb; have zF1 := (blk_cell HF1.out 0).trans (show _ = some (Value.slice A l.length c) from rfl); obtain ⟨zN0_1, zN1_1, zN2_1, zN3_1, zN4_1, zN5_1, zN6_1, zN7_1⟩ := cells8 HN1.out))
        go_ret2
        exact ⟨by rw [HG.out]; first | done | rfl, HB1.out⟩
      · have f1 : (x.f2 == 48) = false := beq_eq_false_iff_ne.2 hk2
        have f2 : (x.f2 != 48) = true := by simp only [bne, f1]; rfl
        rw [textOf, if_pos he, if_neg hk2] at hT
        have HG := Aside0.mk hT.symm
        clear hT he hk hk2
        go_enter Try.func18, Try.ntmps18
        go_wp2_with (first | (have _t := HB0; go_at_call 16; (with_reducible refine (hget1 _ (Kd.C_below HC.out HB0.out)).mono ?_); rintro e_ w1 ⟨rfl, hb⟩; have HB1 := Aside0.mk (below_alloc (below_step HB0.out hb) (.cells #[.string x.f0, .string x.f1, .int .u8 x.f2, .int .i64 x.f3, .int .i64 x.f4, .int .i64 x.f5, .int .i64 x.f6, .string x.f7] 26)); have HF1 := Aside0.mk (blk_alloc (blk_below HF0.out hb) (.cells #[.string x.f0, .string x.f1, .int .u8 x.f2, .int .i64 x.f3, .int .i64 x.f4, .int .i64 x.f5, .int .i64 x.f6, .string x.f7] 26)); have HN1 := Aside0.mk (heap_alloc_new w1 (.cells #[.string x.f0, .string x.f1, .int .u8 x.f2, .int .i64 x.f3, .int .i64 x.f4, .int .i64 x.f5, .int .i64 x.f6, .string x.f7] 26)); have hlt1 := blk_lt (blk_below HF0.out hb); clear hb; have zF1 := (blk_cell HF1.out 0).trans (show _ = some (Value.slice A l.length c) from rfl); obtain ⟨zN0_1, zN1_1, zN2_1, zN3_1, zN4_1, zN5_1, zN6_1, zN7_1⟩ := cells8 HN1.out))
        go_ret2
        exact ⟨by rw [HG.out]; first | done | rfl, HB1.out⟩
  · have b1 : (e1 == 0) = false := beq_eq_false_iff_ne.2 he
    have b2 : (e1 != 0) = true := by simp only [bne, b1]; rfl
    rw [if_neg (fun h => he h.1), textOf, if_neg he] at hT
    have HG := Aside0.mk hT.symm
    clear hT he
    go_enter Try.func18, Try.ntmps18
    go_wp2_with (first | (have _t := HB0; go_at_call 16; (with_reducible refine (hget1 _ (Kd.C_below HC.out HB0.out)).mono ?_); rintro e_ w1 ⟨rfl, hb⟩; have HB1 := Aside0.mk (below_alloc (below_step HB0.out hb) (.cells #[.string x.f0, .string x.f1, .int .u8 x.f2, .int .i64 x.f3, .int .i64 x.f4, .int .i64 x.f5, .int .i64 x.f6, .string x.f7] 26)); have HF1 := Aside0.mk (blk_alloc (blk_below HF0.out hb) (.cells #[.string x.f0, .string x.f1, .int .u8 x.f2, .int .i64 x.f3, .int .i64 x.f4, .int .i64 x.f5, .int .i64 x.f6, .string x.f7] 26)); have HN1 := Aside0.mk (heap_alloc_new w1 (.cells #[.string x.f0, .string x.f1, .int .u8 x.f2, .int .i64 x.f3, .int .i64 x.f4, .int .i64 x.f5, .int .i64 x.f6, .string x.f7] 26)); have hlt1 := blk_lt (blk_below HF0.out hb); clear hb; have zF1 := (blk_cell HF1.out 0).trans (show _ = some (Value.slice A l.length c) from rfl); obtain ⟨zN0_1, zN1_1, zN2_1, zN3_1, zN4_1, zN5_1, zN6_1, zN7_1⟩ := cells8 HN1.out))
    go_ret2
    exact ⟨by rw [HG.out]; first | done | rfl, HB1.out⟩

end Go.Proofs.Ytklbnfpjjcidiaa.X
