import Derived.Test.YtklbnfpjjcidiaaXK
import Derived.Test.YtklbnfpjjcidiaaXGfsa
import Derived.Test.YtklbnfpjjcidiaaXGpath
import Derived.Test.YtklbnfpjjcidiaaXGslices
import Derived.Test.YtklbnfpjjcidiaaXGtree
import Derived.Test.YtklbnfpjjcidiaaYAll
import Derived.Test.YtklbnfpjjcidiaaP02p
import Derived.Test.YtklbnfpjjcidiaaP06a
import Derived.Test.YtklbnfpjjcidiaaPGA
import Derived.Deep.RegionHeld3
import Derived.Laws.Cover1
import Derived.Laws.EntriesVeiled
import Derived.WalkSpells
namespace Go.Proofs.Ytklbnfpjjcidiaa.X
open Go.RowKit Go.Proofs.YtklbnfpjjcidiaaW.PrintWords Go.Proofs.YtklbnfpjjcidiaaW.PrintLast Go.Proofs.YtklbnfpjjcidiaaW.PrintMore
attribute [local go_sem] max2_int min2_int max_two min_two
set_option linter.unusedVariables false
set_option linter.unusedSimpArgs false

open Go.Proofs.YtklbnfpjjcidiaaY
set_option maxRecDepth 100000
theorem idxOf_any {α : Type} (pr : α → Bool) (l : List α) : decide (idxOf pr l ≥ 0) = l.any pr := by
  unfold idxOf
  cases h : l.findIdx? pr with
  | none =>
    have := List.findIdx?_eq_none_iff.1 h
    rw [show l.any pr = false from List.any_eq_false.2 (fun x hx => by rw [this x hx]; decide)]
    rfl
  | some n =>
    have hn := (List.findIdx?_eq_some_iff_getElem.1 h)
    obtain ⟨h1, h2, _⟩ := hn
    rw [show l.any pr = true from List.any_eq_true.2 ⟨_, List.getElem_mem h1, h2⟩]
    exact decide_eq_true (by show (n : Int) ≥ 0; omega)
theorem slices_ContainsFunc_Node.at_ (gf : Nat) (lb : Array Value) (pr : Nd → Bool) (K : World → Prop) (A : Option Addr) (c : Nat) (l : List Nd) (hcb : NodeAsk gf lb l pr K) (w : World) (hr : Kd.C kNd w A l.length l) (hk : K w) :
    Calls Try.prog 40 #[.slice A l.length c, .func (.func gf) #[] lb] w fun e w' => e = .returned (.bool (l.any pr)) ∧ Below w.heap.size w w' := by
  have h := slices_IndexFunc_Node.at_ gf lb pr K A c l hcb w hr hk
  have h2 := idxOf_any pr l
  generalize idxOf pr l = ix at *
  clear hr hk hcb
  go_enter Try.func40, Try.ntmps40
  go_wp2_with (first | (go_at_call 49; refine h.mono ?_; rintro e w2 ⟨rfl, hb2⟩))
  go_ret
  exact ⟨by rw [← h2]; rfl, hb2⟩
end Go.Proofs.Ytklbnfpjjcidiaa.X
namespace Go.Proofs.Ytklbnfpjjcidiaa.X
open Go.RowKit Go.Proofs.YtklbnfpjjcidiaaW.PrintWords Go.Proofs.YtklbnfpjjcidiaaW.PrintLast Go.Proofs.YtklbnfpjjcidiaaW.PrintMore
attribute [local go_sem] max2_int min2_int max_two min_two
set_option linter.unusedVariables false
set_option linter.unusedSimpArgs false

open Go.Proofs.YtklbnfpjjcidiaaY
set_option maxRecDepth 100000
theorem fs_at.at_ (A : Option Addr) (c : Nat) (l : List Nd) (p : ByteArray) (w : World) (hs : Sorted l) (hC : Kd.C kNd w A l.length l) (hl : l.length ≤ 1000) :
    Calls Try.prog 32 #[.agg #[.slice A l.length c], .string p] w fun e w' => e = .returned (.tuple #[.int .i64 (fsIdx l p : Nat), .bool (fsHas l p)]) ∧ Below w.heap.size w w' := by
  have HB := Aside0.mk (below_alloc (Below.refl w.heap.size w) (.cells #[.slice A l.length c] 24))
  have z0 := (blk_cell (heap_alloc_new w (.cells #[.slice A l.length c] 24)) 0).trans (show _ = some (Value.slice A l.length c) from rfl)
  have hb := bsearch.at_ A c l p _ hs (Kd.C_below hC HB.out) (by omega)
  clear hs hC
  go_enter Try.func32, Try.ntmps32
  go_wp2_with (go_at_call 51; refine hb.mono ?_; rintro e w1 ⟨rfl, hb1⟩; have HB1 := Aside0.mk (below_step HB.out hb1))
  go_ret2
  exact ⟨rfl, HB1.out⟩
end Go.Proofs.Ytklbnfpjjcidiaa.X
namespace Go.Proofs.Ytklbnfpjjcidiaa.X
open Go.RowKit Go.Proofs.YtklbnfpjjcidiaaW.PrintWords Go.Proofs.YtklbnfpjjcidiaaW.PrintLast Go.Proofs.YtklbnfpjjcidiaaW.PrintMore
attribute [local go_sem] max2_int min2_int max_two min_two
set_option linter.unusedVariables false
set_option linter.unusedSimpArgs false

open Go.Proofs.YtklbnfpjjcidiaaY
set_option maxRecDepth 100000
/-- Is there a node of a path, and a kind? -/
def fsIs (l : List Nd) (p : ByteArray) (k : Int) : Bool := match l[fsIdx l p]? with
  | some n => (n.f0.toList == p.toList) && n.f2 == k
  | none => false
theorem fsHas_lt {l : List Nd} {p : ByteArray} (h : fsHas l p = true) : ∃ hi : fsIdx l p < l.length, (l[fsIdx l p].f0.toList == p.toList) = true := by
  unfold fsHas at h
  by_cases hi : fsIdx l p < l.length
  · rw [List.getElem?_eq_getElem hi] at h; exact ⟨hi, h⟩
  · rw [List.getElem?_eq_none (by omega)] at h; cases h
theorem fsIs_has {l : List Nd} {p : ByteArray} {k : Int} (h : fsHas l p = false) : fsIs l p k = false := by
  unfold fsHas at h
  unfold fsIs
  cases hq : l[fsIdx l p]? with
  | none => rfl
  | some n => rw [hq] at h; simp only at h ⊢; rw [h]; rfl
theorem fs_is.at_ (A : Option Addr) (c : Nat) (l : List Nd) (p : ByteArray) (k : Int) (w : World) (hs : Sorted l) (hC : Kd.C kNd w A l.length l) (hl : l.length ≤ 1000) :
    Calls Try.prog 38 #[.agg #[.slice A l.length c], .string p, .int .u8 k] w fun e w' => e = .returned (.bool (fsIs l p k)) ∧ Below w.heap.size w w' := by
  have HB := Aside0.mk (below_alloc (Below.refl w.heap.size w) (.cells #[.slice A l.length c] 24))
  have HX := Aside0.mk (heap_alloc_new w (.cells #[.slice A l.length c] 24))
  have z0 := (blk_cell HX.out 0).trans (show _ = some (Value.slice A l.length c) from rfl)
  have hb := fs_at.at_ A c l p _ hs (Kd.C_below hC HB.out) hl
  have HC := Aside0.mk hC
  clear hs hC
  cases hh : fsHas l p with
  | false =>
    rw [fsIs_has hh]
    rw [hh] at hb
    clear hh
    go_enter Try.func38, Try.ntmps38
    go_wp2_with (go_at_call 32; refine hb.mono ?_; rintro e w1 ⟨rfl, hb1⟩; have HB1 := Aside0.mk (below_step HB.out hb1))
    go_ret
    exact ⟨rfl, HB1.out⟩
  | true =>
    obtain ⟨hi, he⟩ := fsHas_lt hh
    have hv : fsIs l p k = (l[fsIdx l p].f2 == k) := by unfold fsIs; rw [List.getElem?_eq_getElem hi]; simp only; rw [he, Bool.true_and]
    rw [hh] at hb
    rw [hv]
    have HI := Aside0.mk (List.getElem?_eq_getElem hi)
    generalize l[fsIdx l p] = x at *
    clear hh hv he
    generalize fsIdx l p = i at *
    have hi0 : (0 : Int) ≤ (i : Int) := by omega
    have hi1 : (i : Int) < (l.length : Int) := by omega
    go_enter Try.func38, Try.ntmps38
    go_upto_region 2 with (go_at_call 32; refine hb.mono ?_; rintro e w1 ⟨rfl, hb1⟩; have HB1 := Aside0.mk (below_step HB.out hb1); have HX1 := Aside0.mk (blk_below HX.out hb1))
    obtain ⟨ad, rfl, k0, k1, k2, k3, k4, k5, k6, k7⟩ := nd_cells (Kd.C_below HC.out HB1.out) hi x HI.out
    have z1 := (blk_cell HX1.out 0).trans (show _ = some (Value.slice (some ad) l.length c) from rfl)
    go_wp2_with (fail)
    go_ret
    exact ⟨rfl, HB1.out⟩
end Go.Proofs.Ytklbnfpjjcidiaa.X
namespace Go.Proofs.Ytklbnfpjjcidiaa.X
open Go.RowKit Go.Proofs.YtklbnfpjjcidiaaW.PrintWords Go.Proofs.YtklbnfpjjcidiaaW.PrintLast Go.Proofs.YtklbnfpjjcidiaaW.PrintMore
attribute [local go_sem] max2_int min2_int max_two min_two
set_option linter.unusedVariables false
set_option linter.unusedSimpArgs false

open Go.Proofs.YtklbnfpjjcidiaaY
set_option maxRecDepth 100000
noncomputable def standsB (l : List Nd) (n : Nd) : Bool := (!(parentOf n.f0).2 || fsIs l (parentOf n.f0).1 53) && (!(n.f2 == 49) || fsIs l n.f1 48)
set_option maxHeartbeats 1600000 in
theorem fs_stands.at_ (A : Option Addr) (c : Nat) (l : List Nd) (n : Nd) (w : World) (hs : Sorted l) (hC : Kd.C kNd w A l.length l) (hl : l.length ≤ 1000) (hn : n.f0.size ≤ 9223372036854775807) :
    Calls Try.prog 33 #[.agg #[.slice A l.length c], .agg #[.string n.f0, .string n.f1, .int .u8 n.f2, .int .i64 n.f3, .int .i64 n.f4, .int .i64 n.f5, .int .i64 n.f6, .string n.f7]] w fun e w' => e = .returned (.bool (standsB l n)) ∧ Below w.heap.size w w' := by
  obtain ⟨kp, hkp⟩ := Ev.rounds (parentOf_ev hn).1
  have HR : Aside0 (standsB l n = standsB l n) := ⟨rfl⟩
  have hpar := fun W => path_Parent.calls kp n.f0 (parentOf n.f0).1 (parentOf n.f0).2 W hkp
  have hi1 := fun W hC => fs_is.at_ A c l (parentOf n.f0).1 53 W hs hC hl
  have hi2 := fun W hC => fs_is.at_ A c l n.f1 48 W hs hC hl
  obtain ⟨R, hR⟩ : ∃ R, standsB l n = R := ⟨_, rfl⟩
  rw [hR]
  unfold standsB at hR
  clear hkp HR
  generalize (parentOf n.f0).1 = up at *
  generalize (parentOf n.f0).2 = has at *
  generalize fsIs l up 53 = b1 at *
  generalize fsIs l n.f1 48 = b2 at *
  have HR := Aside0.mk hR
  have HC := Aside0.mk hC
  clear hR hs hC
  have HB0 := Aside0.mk (below_alloc (below_alloc (Below.refl w.heap.size w) (.cells #[.slice A l.length c] 24)) (.cells #[.string n.f0, .string n.f1, .int .u8 n.f2, .int .i64 n.f3, .int .i64 n.f4, .int .i64 n.f5, .int .i64 n.f6, .string n.f7] 26))
  have HF0 := Aside0.mk (blk_alloc (heap_alloc_new w (.cells #[.slice A l.length c] 24)) (.cells #[.string n.f0, .string n.f1, .int .u8 n.f2, .int .i64 n.f3, .int .i64 n.f4, .int .i64 n.f5, .int .i64 n.f6, .string n.f7] 26))
  have HN0 := heap_alloc_new (w.alloc (.cells #[.slice A l.length c] 24)) (.cells #[.string n.f0, .string n.f1, .int .u8 n.f2, .int .i64 n.f3, .int .i64 n.f4, .int .i64 n.f5, .int .i64 n.f6, .string n.f7] 26)
  rw [World.size_alloc] at HN0
  have HN0 := Aside0.mk HN0
  obtain ⟨zn0_0, zn1_0, zn2_0, zn3_0, zn4_0, zn5_0, zn6_0, zn7_0⟩ := cells8 HN0.out
  have zf0 := (blk_cell HF0.out 0).trans (show _ = some (Value.slice A l.length c) from rfl)
  by_cases hk : n.f2 = 49
  · have hk1 : (n.f2 == 49) = true := beq_iff_eq.2 hk
    have hk2 : (n.f2 != 49) = false := by simp only [bne, hk1]; rfl
    clear hk
    cases has with
    | false =>
      go_enter Try.func33, Try.ntmps33
      go_wp2_with (first | (have _t := HB0; go_at_call 24; (with_reducible refine (hpar _).mono ?_); rintro e w1 ⟨rfl, hb⟩; have HB1 := Aside0.mk (below_step HB0.out hb); have HF1 := Aside0.mk (blk_below HF0.out hb); have HN1 := Aside0.mk (blk_below HN0.out hb); clear hb; have zf1 := (blk_cell HF1.out 0).trans (show _ = some (Value.slice A l.length c) from rfl); obtain ⟨zn0_1, zn1_1, zn2_1, zn3_1, zn4_1, zn5_1, zn6_1, zn7_1⟩ := cells8 HN1.out) | (have _t := HB1; go_at_call 38; (with_reducible refine (hi2 _ (Kd.C_below HC.out HB1.out)).mono ?_); rintro e w3 ⟨rfl, hb⟩; have HB3 := Aside0.mk (below_step HB1.out hb); have HF3 := Aside0.mk (blk_below HF1.out hb); have HN3 := Aside0.mk (blk_below HN1.out hb); clear hb; have zf3 := (blk_cell HF3.out 0).trans (show _ = some (Value.slice A l.length c) from rfl); obtain ⟨zn0_3, zn1_3, zn2_3, zn3_3, zn4_3, zn5_3, zn6_3, zn7_3⟩ := cells8 HN3.out))
      go_ret
      exact ⟨by rw [← HR.out]; simp [*], HB3.out⟩
    | true =>
      cases b1 with
      | false =>
        go_enter Try.func33, Try.ntmps33
        go_wp2_with (first | (have _t := HB0; go_at_call 24; (with_reducible refine (hpar _).mono ?_); rintro e w1 ⟨rfl, hb⟩; have HB1 := Aside0.mk (below_step HB0.out hb); have HF1 := Aside0.mk (blk_below HF0.out hb); have HN1 := Aside0.mk (blk_below HN0.out hb); clear hb; have zf1 := (blk_cell HF1.out 0).trans (show _ = some (Value.slice A l.length c) from rfl); obtain ⟨zn0_1, zn1_1, zn2_1, zn3_1, zn4_1, zn5_1, zn6_1, zn7_1⟩ := cells8 HN1.out) | (have _t := HB1; go_at_call 38; (with_reducible refine (hi1 _ (Kd.C_below HC.out HB1.out)).mono ?_); rintro e w2 ⟨rfl, hb⟩; have HB2 := Aside0.mk (below_step HB1.out hb); have HF2 := Aside0.mk (blk_below HF1.out hb); have HN2 := Aside0.mk (blk_below HN1.out hb); clear hb; have zf2 := (blk_cell HF2.out 0).trans (show _ = some (Value.slice A l.length c) from rfl); obtain ⟨zn0_2, zn1_2, zn2_2, zn3_2, zn4_2, zn5_2, zn6_2, zn7_2⟩ := cells8 HN2.out))
        go_ret
        exact ⟨by rw [← HR.out]; simp [*], HB2.out⟩
      | true =>
        go_enter Try.func33, Try.ntmps33
        go_wp2_with (first | (have _t := HB0; go_at_call 24; (with_reducible refine (hpar _).mono ?_); rintro e w1 ⟨rfl, hb⟩; have HB1 := Aside0.mk (below_step HB0.out hb); have HF1 := Aside0.mk (blk_below HF0.out hb); have HN1 := Aside0.mk (blk_below HN0.out hb); clear hb; have zf1 := (blk_cell HF1.out 0).trans (show _ = some (Value.slice A l.length c) from rfl); obtain ⟨zn0_1, zn1_1, zn2_1, zn3_1, zn4_1, zn5_1, zn6_1, zn7_1⟩ := cells8 HN1.out) | (have _t := HB1; go_at_call 38; (with_reducible refine (hi1 _ (Kd.C_below HC.out HB1.out)).mono ?_); rintro e w2 ⟨rfl, hb⟩; have HB2 := Aside0.mk (below_step HB1.out hb); have HF2 := Aside0.mk (blk_below HF1.out hb); have HN2 := Aside0.mk (blk_below HN1.out hb); clear hb; have zf2 := (blk_cell HF2.out 0).trans (show _ = some (Value.slice A l.length c) from rfl); obtain ⟨zn0_2, zn1_2, zn2_2, zn3_2, zn4_2, zn5_2, zn6_2, zn7_2⟩ := cells8 HN2.out) | (have _t := HB2; go_at_call 38; (with_reducible refine (hi2 _ (Kd.C_below HC.out HB2.out)).mono ?_); rintro e w3 ⟨rfl, hb⟩; have HB3 := Aside0.mk (below_step HB2.out hb); have HF3 := Aside0.mk (blk_below HF2.out hb); have HN3 := Aside0.mk (blk_below HN2.out hb); clear hb; have zf3 := (blk_cell HF3.out 0).trans (show _ = some (Value.slice A l.length c) from rfl); obtain ⟨zn0_3, zn1_3, zn2_3, zn3_3, zn4_3, zn5_3, zn6_3, zn7_3⟩ := cells8 HN3.out))
        go_ret
        exact ⟨by rw [← HR.out]; simp [*], HB3.out⟩
  · have hk1 : (n.f2 == 49) = false := beq_eq_false_iff_ne.2 hk
    have hk2 : (n.f2 != 49) = true := by simp only [bne, hk1]; rfl
    clear hk
    cases has with
    | false =>
      go_enter Try.func33, Try.ntmps33
      go_wp2_with (first | (have _t := HB0; go_at_call 24; (with_reducible refine (hpar _).mono ?_); rintro e w1 ⟨rfl, hb⟩; have HB1 := Aside0.mk (below_step HB0.out hb); have HF1 := Aside0.mk (blk_below HF0.out hb); have HN1 := Aside0.mk (blk_below HN0.out hb); clear hb; have zf1 := (blk_cell HF1.out 0).trans (show _ = some (Value.slice A l.length c) from rfl); obtain ⟨zn0_1, zn1_1, zn2_1, zn3_1, zn4_1, zn5_1, zn6_1, zn7_1⟩ := cells8 HN1.out))
      go_ret
      exact ⟨by rw [← HR.out]; simp [*], HB1.out⟩
    | true =>
      cases b1 with
      | false =>
        go_enter Try.func33, Try.ntmps33
        go_wp2_with (first | (have _t := HB0; go_at_call 24; (with_reducible refine (hpar _).mono ?_); rintro e w1 ⟨rfl, hb⟩; have HB1 := Aside0.mk (below_step HB0.out hb); have HF1 := Aside0.mk (blk_below HF0.out hb); have HN1 := Aside0.mk (blk_below HN0.out hb); clear hb; have zf1 := (blk_cell HF1.out 0).trans (show _ = some (Value.slice A l.length c) from rfl); obtain ⟨zn0_1, zn1_1, zn2_1, zn3_1, zn4_1, zn5_1, zn6_1, zn7_1⟩ := cells8 HN1.out) | (have _t := HB1; go_at_call 38; (with_reducible refine (hi1 _ (Kd.C_below HC.out HB1.out)).mono ?_); rintro e w2 ⟨rfl, hb⟩; have HB2 := Aside0.mk (below_step HB1.out hb); have HF2 := Aside0.mk (blk_below HF1.out hb); have HN2 := Aside0.mk (blk_below HN1.out hb); clear hb; have zf2 := (blk_cell HF2.out 0).trans (show _ = some (Value.slice A l.length c) from rfl); obtain ⟨zn0_2, zn1_2, zn2_2, zn3_2, zn4_2, zn5_2, zn6_2, zn7_2⟩ := cells8 HN2.out))
        go_ret
        exact ⟨by rw [← HR.out]; simp [*], HB2.out⟩
      | true =>
        go_enter Try.func33, Try.ntmps33
        go_wp2_with (first | (have _t := HB0; go_at_call 24; (with_reducible refine (hpar _).mono ?_); rintro e w1 ⟨rfl, hb⟩; have HB1 := Aside0.mk (below_step HB0.out hb); have HF1 := Aside0.mk (blk_below HF0.out hb); have HN1 := Aside0.mk (blk_below HN0.out hb); clear hb; have zf1 := (blk_cell HF1.out 0).trans (show _ = some (Value.slice A l.length c) from rfl); obtain ⟨zn0_1, zn1_1, zn2_1, zn3_1, zn4_1, zn5_1, zn6_1, zn7_1⟩ := cells8 HN1.out) | (have _t := HB1; go_at_call 38; (with_reducible refine (hi1 _ (Kd.C_below HC.out HB1.out)).mono ?_); rintro e w2 ⟨rfl, hb⟩; have HB2 := Aside0.mk (below_step HB1.out hb); have HF2 := Aside0.mk (blk_below HF1.out hb); have HN2 := Aside0.mk (blk_below HN1.out hb); clear hb; have zf2 := (blk_cell HF2.out 0).trans (show _ = some (Value.slice A l.length c) from rfl); obtain ⟨zn0_2, zn1_2, zn2_2, zn3_2, zn4_2, zn5_2, zn6_2, zn7_2⟩ := cells8 HN2.out))
        go_ret
        exact ⟨by rw [← HR.out]; simp [*], HB2.out⟩
end Go.Proofs.Ytklbnfpjjcidiaa.X
namespace Go.Proofs.Ytklbnfpjjcidiaa.X
open Go.RowKit Go.Proofs.YtklbnfpjjcidiaaW.PrintWords Go.Proofs.YtklbnfpjjcidiaaW.PrintLast Go.Proofs.YtklbnfpjjcidiaaW.PrintMore
attribute [local go_sem] max2_int min2_int max_two min_two
set_option linter.unusedVariables false
set_option linter.unusedSimpArgs false

open Go.Proofs.YtklbnfpjjcidiaaY
set_option maxRecDepth 100000
theorem fs_May1.ask (A : Option Addr) (c : Nat) (l : List Nd) (b : Nat) (w0 : World) (hs : Sorted l) (hC : Kd.C kNd w0 A l.length l) (hl : l.length ≤ 1000) (hok : ∀ x ∈ l, okN x = true) :
    NodeAsk 41 #[.pointer (some ⟨b, 0, none⟩)] l (fun x => !standsB l x) (fun W => W.heap[b]? = some (.cells #[.slice A l.length c] 24 (0, 0)) ∧ Below w0.heap.size w0 W) := by
  refine ⟨fun A B h k => ⟨(k.block b (blk_lt h.1)).trans h.1, below_step h.2 k⟩, fun _ _ => by kernel_rfl, fun x hx W hb => ?_⟩
  have hn := (okN_iff.1 (hok x hx)).1
  have hfb := blk_alloc hb.1 (.cells #[.string x.f0, .string x.f1, .int .u8 x.f2, .int .i64 x.f3, .int .i64 x.f4, .int .i64 x.f5, .int .i64 x.f6, .string x.f7] 26)
  have hB := Aside0.mk (below_alloc (Below.refl W.heap.size W) (.cells #[.string x.f0, .string x.f1, .int .u8 x.f2, .int .i64 x.f3, .int .i64 x.f4, .int .i64 x.f5, .int .i64 x.f6, .string x.f7] 26))
  have hst := fun W' hC' => fs_stands.at_ A c l x W' hs hC' hl (by omega)
  have HC1 := Kd.C_below hC hb.2
  have HC2 := Kd.C_below HC1 hB.out
  have hst2 := hst _ HC2
  clear hst HC1 HC2 hs hC
  show Calls Try.prog 41 #[nodeV x, .pointer (some ⟨b, 0, none⟩)] W _
  unfold nodeV
  obtain ⟨a0, a1, a2, a3, a4, a5, a6, a7⟩ := x
  have hHN := heap_alloc_new W (.cells #[.string a0, .string a1, .int .u8 a2, .int .i64 a3, .int .i64 a4, .int .i64 a5, .int .i64 a6, .string a7] 26)
  have hlt := blk_lt hb.1
  have hne : b ≠ W.heap.size := by omega
  have zf := (blk_cell hfb 0).trans (show _ = some (Value.slice A l.length c) from rfl)
  obtain ⟨zn0, zn1, zn2, zn3, zn4, zn5, zn6, zn7⟩ := cells8 hHN
  clear hb hfb hHN hlt
  go_enter Try.func41, Try.ntmps41
  go_wp2_with (first | (go_at_call 33; refine hst2.mono ?_; rintro e w2 ⟨rfl, hb2⟩))
  go_ret
  exact ⟨rfl, below_step hB.out hb2⟩
end Go.Proofs.Ytklbnfpjjcidiaa.X
namespace Go.Proofs.Ytklbnfpjjcidiaa.X
open Go.RowKit Go.Proofs.YtklbnfpjjcidiaaW.PrintWords Go.Proofs.YtklbnfpjjcidiaaW.PrintLast Go.Proofs.YtklbnfpjjcidiaaW.PrintMore
attribute [local go_sem] max2_int min2_int max_two min_two
set_option linter.unusedVariables false
set_option linter.unusedSimpArgs false

open Go.Proofs.YtklbnfpjjcidiaaY
set_option maxRecDepth 100000
def leB (a b : ByteArray) : Bool := Op.bytesLess a.toList b.toList || a.toList == b.toList
def okAt (l : List Nd) : Nat → Bool
  | 0 => match l[0]? with
    | some n => one n
    | none => true
  | k + 1 => match l[k + 1]?, l[k]? with
    | some n, some m => one n && !leB n.f0 m.f0
    | _, _ => true
def risesB (l : List Nd) : Bool := (List.range l.length).all (okAt l)
/-- The file system may be. -/
noncomputable def fsMay (l : List Nd) : Bool := decide (l.length ≤ 20) && (risesB l && l.all (standsB l))
theorem okAt0 {l : List Nd} {x : Nd} (h : l[0]? = some x) : okAt l 0 = one x := by unfold okAt; rw [h]
theorem okAt_succ {l : List Nd} {k : Nat} {x y : Nd} (h : l[k + 1]? = some x) (h2 : l[k]? = some y) : okAt l (k + 1) = (one x && !leB x.f0 y.f0) := by rw [okAt, h, h2]
theorem ltB_of_not_leB {a b : ByteArray} (h : leB a b = false) : ltB b a = true := by
  unfold leB at h
  unfold ltB
  rw [Bool.or_eq_false_iff] at h
  exact less_total h.1 (beq_eq_false_iff_ne.1 h.2)
theorem sorted_of_rises {l : List Nd} (h : ∀ k, k < l.length → okAt l k = true) : Sorted l := by
  have hadj : ∀ k (hk : k + 1 < l.length), ltB l[k].f0 l[k + 1].f0 = true := fun k hk => by
    have := h (k + 1) hk
    rw [okAt_succ (List.getElem?_eq_getElem hk) (List.getElem?_eq_getElem (by omega)), Bool.and_eq_true, Bool.not_eq_true'] at this
    exact ltB_of_not_leB this.2
  unfold Sorted
  rw [List.pairwise_iff_getElem]
  intro i j hi hj hij
  obtain ⟨d, rfl⟩ : ∃ d, j = i + 1 + d := ⟨j - (i + 1), by omega⟩
  clear hij
  induction d with
  | zero => exact hadj i hj
  | succ d ih => exact less_trans (ih (by omega)) (hadj (i + 1 + d) hj)
theorem fsMay_big {l : List Nd} (h : ¬ l.length ≤ 20) : fsMay l = false := by unfold fsMay; rw [decide_eq_false h]; rfl
theorem fsMay_bad {l : List Nd} {k : Nat} (hk : k < l.length) (h : okAt l k = false) : fsMay l = false := by
  unfold fsMay
  rw [show risesB l = false from (by unfold risesB; rw [List.all_eq_false]; exact ⟨k, List.mem_range.2 hk, by rw [h]; decide⟩)]
  rw [Bool.false_and, Bool.and_false]
theorem any_not {α : Type} (p : α → Bool) : ∀ l : List α, (!(l.any fun x => !p x)) = l.all p
  | [] => rfl
  | x :: l => by rw [List.any_cons, List.all_cons, Bool.not_or, any_not p l, Bool.not_not]
theorem fsMay_end {l : List Nd} (h : l.length ≤ 20) (hk : ∀ k, k < l.length → okAt l k = true) : fsMay l = !(l.any fun x => !standsB l x) := by
  unfold fsMay
  rw [decide_eq_true h, show risesB l = true from (by unfold risesB; rw [List.all_eq_true]; intro k hm; exact hk k (List.mem_range.1 hm)), Bool.true_and, Bool.true_and, any_not]
theorem fsMay_rises {l : List Nd} (h : fsMay l = true) : l.length ≤ 20 ∧ (∀ k, k < l.length → okAt l k = true) ∧ l.all (standsB l) = true := by
  unfold fsMay at h
  rw [Bool.and_eq_true, Bool.and_eq_true, decide_eq_true_iff] at h
  refine ⟨h.1, fun k hk => ?_, h.2.2⟩
  have := h.2.1
  unfold risesB at this
  exact List.all_eq_true.1 this k (List.mem_range.2 hk)
set_option maxHeartbeats 3200000 in
theorem fs_May.at_ (A : Option Addr) (c : Nat) (l : List Nd) (w : World) (hC : Kd.C kNd w A l.length l) (hl : l.length ≤ 1000) (hok : ∀ x ∈ l, okN x = true) :
    Calls Try.prog 22 #[.agg #[.slice A l.length c]] w fun e w' => e = .returned (.bool (fsMay l)) ∧ Below w.heap.size w w' := by
  obtain ⟨R, hR⟩ : ∃ R, fsMay l = R := ⟨_, rfl⟩
  have HBig := Aside0.mk (fun h => hR.symm.trans (fsMay_big (l := l) h))
  have HBad := Aside0.mk (fun {k : Nat} hk h => hR.symm.trans (fsMay_bad (l := l) (k := k) hk h))
  have HEnd := Aside0.mk (fun h hk => hR.symm.trans (fsMay_end (l := l) h hk))
  rw [hR]
  clear hR
  have HC := Aside0.mk hC
  have HO := Aside0.mk hok
  have HBz := Aside0.mk (below_alloc (Below.refl w.heap.size w) (.cells #[.slice A l.length c] 24))
  have HFz := Aside0.mk (heap_alloc_new w (.cells #[.slice A l.length c] 24))
  have zf := (blk_cell HFz.out 0).trans (show _ = some (Value.slice A l.length c) from rfl)
  clear hC hok
  by_cases hbig : l.length ≤ 20
  case neg =>
    have hb1 : (l.length : Int) > 20 := by omega
    go_enter Try.func22, Try.ntmps22
    go_wp2_with (fail)
    go_ret
    exact ⟨by rw [HBig.out hbig]; first | done | rfl, HBz.out⟩
  have hb1 : ¬ (l.length : Int) > 20 := by omega
  go_enter Try.func22, Try.ntmps22
  go_wp2_with (fail)
  go_loopw [3, 4, 12] (fun _ _ v12 wr => ∃ i : Nat, v12 = .int .i64 i ∧ i ≤ l.length ∧ Aside0 (∀ k, k < i → okAt l k = true) ∧ Aside0 (Below w.heap.size w wr) ∧ Aside0 (wr.heap[w.heap.size]? = some (.cells #[.slice A l.length c] 24 (0, 0)))) (fun _ _ v12 _ => l.length - (intOf v12).toNat)
  case atStart => exact ⟨0, rfl, Nat.zero_le _, ⟨fun k h => absurd h (Nat.not_lt_zero _)⟩, HBz, HFz⟩
  case round =>
    obtain ⟨i, rfl, hi, HP, HB, HF⟩ := hrel
    clear zf HBz HFz
    have zf := (blk_cell HF.out 0).trans (show _ = some (Value.slice A l.length c) from rfl)
    by_cases hlt : i < l.length
    · have hnn : (0 : Int) ≤ (i : Int) := by omega
      have hlt2 : (i : Int) < (l.length : Int) := by omega
      obtain ⟨x, hx⟩ : ∃ x, l[i]? = some x := ⟨_, List.getElem?_eq_getElem hlt⟩
      obtain ⟨ad, rfl, k0, k1, k2, k3, k4, k5, k6, k7⟩ := nd_cells (Kd.C_below HC.out HB.out) hlt x hx
      have hxm : x ∈ l := by rw [List.mem_iff_getElem?]; exact ⟨i, hx⟩
      have hone := fun W => tree_One.calls x.f0 x.f1 x.f2 x.f3 x.f4 x.f5 x.f6 x.f7 (one x) W (one_f (HO.out x hxm))
      have HX := Aside0.mk hx
      have HK := Aside0.mk (And.intro k0 (And.intro k1 (And.intro k2 (And.intro k3 (And.intro k4 (And.intro k5 (And.intro k6 k7)))))))
      clear hxm hx
      obtain ⟨a0, a1, a2, a3, a4, a5, a6, a7⟩ := x
      simp only at hone k0 k1 k2 k3 k4 k5 k6 k7
      go_upto_region 6 with (fail)
      clear HK
      obtain ⟨zn0, zn1, zn2, zn3, zn4, zn5, zn6, zn7⟩ := cells8 (heap_alloc_new wr (.cells #[.string a0, .string a1, .int .u8 a2, .int .i64 a3, .int .i64 a4, .int .i64 a5, .int .i64 a6, .string a7] 26))
      cases ho : one ⟨a0, a1, a2, a3, a4, a5, a6, a7⟩ with
      | false =>
        rw [ho] at hone
        have hbad : okAt l i = false := by cases i with
          | zero => rw [okAt0 HX.out]; exact ho
          | succ k => rw [okAt_succ HX.out (List.getElem?_eq_getElem (by omega)), ho]; rfl
        have HRR := Aside0.mk (HBad.out hlt hbad)
        clear ho hbad
        refine start_ (n := 19) (S := fun w' => w'.cell? ⟨wr.heap.size, 0, none⟩ = some (.string a0) ∧ w'.cell? ⟨wr.heap.size, 1, none⟩ = some (.string a1) ∧ w'.cell? ⟨wr.heap.size, 2, none⟩ = some (.int .u8 a2) ∧ w'.cell? ⟨wr.heap.size, 3, none⟩ = some (.int .i64 a3) ∧ w'.cell? ⟨wr.heap.size, 4, none⟩ = some (.int .i64 a4) ∧ w'.cell? ⟨wr.heap.size, 5, none⟩ = some (.int .i64 a5) ∧ w'.cell? ⟨wr.heap.size, 6, none⟩ = some (.int .i64 a6) ∧ w'.cell? ⟨wr.heap.size, 7, none⟩ = some (.string a7)) (ds := []) #[false, false, false, false, false, false, false, false, false, false, false, false, false, false, false, false, false, false, false] (by kernel_rfl) rfl rfl ⟨zn0, zn1, zn2, zn3, zn4, zn5, zn6, zn7⟩ (fun hHeld => ?_)
        refine take_ (i := 0) (N := some 17) (v := ?_) (a' := ?_) #[true, false, false, false, false, false, false, false, false, false, false, false, false, false, false, false, false, false, false] rfl rfl (by kernel_rfl) (fun _ _ _ h => h) (Or.inl ⟨by rfl, ?_⟩) hHeld ?_ ?_
        rotate_left
        · rintro w' ⟨s0, s1, s2, s3, s4, s5, s6, s7⟩
          go_simp
          with_reducible rfl
        rotate_left
        · simp only [Act.put, List.setIfInBounds_toArray, List.set_cons_zero, List.set_cons_succ, i64_w, i32_w]
          rfl
        refine one_ (i := 1) (N := some 18) #[true, true, false, false, false, false, false, false, false, false, false, false, false, false, false, false, false, false, false] rfl rfl (by kernel_rfl) (by decide) (fun K hK => ?_)
        refine goes_ Try.func25 (by kernel_rfl) rfl #[.agg #[.string a0, .string a1, .int .u8 a2, .int .i64 a3, .int .i64 a4, .int .i64 a5, .int .i64 a6, .string a7]] (by rfl) rfl rfl (by (try simp only [List.map_toArray, List.map_cons, List.map_nil]); first | done | rfl | (simp only [List.length_drop, List.length_take]; rfl)) ?_
        refine (hone _).mono ?_
        rintro e w3 ⟨rfl, hb⟩
        have HB3 := Aside0.mk (below_step (below_drew1 (below_alloc HB.out (.cells #[.string a0, .string a1, .int .u8 a2, .int .i64 a3, .int .i64 a4, .int .i64 a5, .int .i64 a6, .string a7] 26))) hb)
        have HF3 := Aside0.mk (blk_below (blk_drew (blk_alloc HF.out (.cells #[.string a0, .string a1, .int .u8 a2, .int .i64 a3, .int .i64 a4, .int .i64 a5, .int .i64 a6, .string a7] 26))) hb)
        have HN3 := Aside0.mk (blk_below (blk_drew (heap_alloc_new wr (.cells #[.string a0, .string a1, .int .u8 a2, .int .i64 a3, .int .i64 a4, .int .i64 a5, .int .i64 a6, .string a7] 26))) hb)
        clear hb
        refine ⟨_, rfl, ?_⟩
        refine hK.out _ _ (cells8 HN3.out) (fun hHeld => ?_)
        clear hK K
        refine norm_ (a' := ?_) ?_ ?_
        rotate_left
        · show Act.put _ (some 18) _ = _
          simp only [Act.put, List.setIfInBounds_toArray, List.set_cons_zero, List.set_cons_succ, i64_w, i32_w]
          rfl
        refine pure_ (i := 2) (N := some 19) (v := ?_) (a' := ?_) #[true, true, true, false, false, false, false, false, false, false, false, false, false, false, false, false, false, false, false] rfl rfl (by kernel_rfl) (fun _ _ _ h => h) (Or.inl ⟨by rfl, ?_⟩) ?_ ?_
        rotate_left
        · intro w'
          go_simp
          with_reducible rfl
        rotate_left
        · simp only [Act.put, List.setIfInBounds_toArray, List.set_cons_zero, List.set_cons_succ, i64_w, i32_w]
          rfl
        refine pure_ (i := 3) (N := some 20) (v := ?_) (a' := ?_) #[true, true, true, true, false, false, false, false, false, false, false, false, false, false, false, false, false, false, false] rfl rfl (by kernel_rfl) (fun _ _ _ h => h) (Or.inl ⟨by rfl, ?_⟩) ?_ ?_
        rotate_left
        · intro w'
          go_simp
          with_reducible rfl
        rotate_left
        · simp only [Act.put, List.setIfInBounds_toArray, List.set_cons_zero, List.set_cons_succ, i64_w, i32_w]
          rfl
        refine pure_ (i := 4) (N := some 21) (v := undef) (a' := ?_) #[true, true, true, true, true, false, false, false, false, false, false, false, false, false, false, false, false, false, false] rfl rfl (by kernel_rfl) (fun _ _ _ h => h) (Or.inr ⟨by rfl, rfl⟩) ?_ ?_
        rotate_left
        · simp only [Act.put, List.setIfInBounds_toArray, List.set_cons_zero, List.set_cons_succ, i64_w, i32_w]
          rfl
        refine pure_ (i := 5) (N := some 22) (v := undef) (a' := ?_) #[true, true, true, true, true, true, false, false, false, false, false, false, false, false, false, false, false, false, false] rfl rfl (by kernel_rfl) (fun _ _ _ h => h) (Or.inr ⟨by rfl, rfl⟩) ?_ ?_
        rotate_left
        · simp only [Act.put, List.setIfInBounds_toArray, List.set_cons_zero, List.set_cons_succ, i64_w, i32_w]
          rfl
        refine pure_ (i := 6) (N := some 23) (v := undef) (a' := ?_) #[true, true, true, true, true, true, true, false, false, false, false, false, false, false, false, false, false, false, false] rfl rfl (by kernel_rfl) (fun _ _ _ h => h) (Or.inr ⟨by rfl, rfl⟩) ?_ ?_
        rotate_left
        · simp only [Act.put, List.setIfInBounds_toArray, List.set_cons_zero, List.set_cons_succ, i64_w, i32_w]
          rfl
        refine pure_ (i := 7) (N := some 24) (v := undef) (a' := ?_) #[true, true, true, true, true, true, true, true, false, false, false, false, false, false, false, false, false, false, false] rfl rfl (by kernel_rfl) (fun _ _ _ h => h) (Or.inr ⟨by rfl, rfl⟩) ?_ ?_
        rotate_left
        · simp only [Act.put, List.setIfInBounds_toArray, List.set_cons_zero, List.set_cons_succ, i64_w, i32_w]
          rfl
        refine pure_ (i := 8) (N := some 25) (v := undef) (a' := ?_) #[true, true, true, true, true, true, true, true, true, false, false, false, false, false, false, false, false, false, false] rfl rfl (by kernel_rfl) (fun _ _ _ h => h) (Or.inr ⟨by rfl, rfl⟩) ?_ ?_
        rotate_left
        · simp only [Act.put, List.setIfInBounds_toArray, List.set_cons_zero, List.set_cons_succ, i64_w, i32_w]
          rfl
        refine pure_ (i := 9) (N := some 26) (v := undef) (a' := ?_) #[true, true, true, true, true, true, true, true, true, true, false, false, false, false, false, false, false, false, false] rfl rfl (by kernel_rfl) (fun _ _ _ h => h) (Or.inr ⟨by rfl, rfl⟩) ?_ ?_
        rotate_left
        · simp only [Act.put, List.setIfInBounds_toArray, List.set_cons_zero, List.set_cons_succ, i64_w, i32_w]
          rfl
        refine pure_ (i := 10) (N := some 27) (v := undef) (a' := ?_) #[true, true, true, true, true, true, true, true, true, true, true, false, false, false, false, false, false, false, false] rfl rfl (by kernel_rfl) (fun _ _ _ h => h) (Or.inr ⟨by rfl, rfl⟩) ?_ ?_
        rotate_left
        · simp only [Act.put, List.setIfInBounds_toArray, List.set_cons_zero, List.set_cons_succ, i64_w, i32_w]
          rfl
        refine pure_ (i := 11) (N := some 28) (v := undef) (a' := ?_) #[true, true, true, true, true, true, true, true, true, true, true, true, false, false, false, false, false, false, false] rfl rfl (by kernel_rfl) (fun _ _ _ h => h) (Or.inr ⟨by rfl, rfl⟩) ?_ ?_
        rotate_left
        · simp only [Act.put, List.setIfInBounds_toArray, List.set_cons_zero, List.set_cons_succ, i64_w, i32_w]
          rfl
        refine pure_ (i := 12) (N := some 29) (v := undef) (a' := ?_) #[true, true, true, true, true, true, true, true, true, true, true, true, true, false, false, false, false, false, false] rfl rfl (by kernel_rfl) (fun _ _ _ h => h) (Or.inr ⟨by rfl, rfl⟩) ?_ ?_
        rotate_left
        · simp only [Act.put, List.setIfInBounds_toArray, List.set_cons_zero, List.set_cons_succ, i64_w, i32_w]
          rfl
        refine pure_ (i := 13) (N := some 30) (v := undef) (a' := ?_) #[true, true, true, true, true, true, true, true, true, true, true, true, true, true, false, false, false, false, false] rfl rfl (by kernel_rfl) (fun _ _ _ h => h) (Or.inr ⟨by rfl, rfl⟩) ?_ ?_
        rotate_left
        · simp only [Act.put, List.setIfInBounds_toArray, List.set_cons_zero, List.set_cons_succ, i64_w, i32_w]
          rfl
        refine pure_ (i := 14) (N := some 31) (v := undef) (a' := ?_) #[true, true, true, true, true, true, true, true, true, true, true, true, true, true, true, false, false, false, false] rfl rfl (by kernel_rfl) (fun _ _ _ h => h) (Or.inr ⟨by rfl, rfl⟩) ?_ ?_
        rotate_left
        · simp only [Act.put, List.setIfInBounds_toArray, List.set_cons_zero, List.set_cons_succ, i64_w, i32_w]
          rfl
        refine pure_ (i := 15) (N := some 32) (v := undef) (a' := ?_) #[true, true, true, true, true, true, true, true, true, true, true, true, true, true, true, true, false, false, false] rfl rfl (by kernel_rfl) (fun _ _ _ h => h) (Or.inr ⟨by rfl, rfl⟩) ?_ ?_
        rotate_left
        · simp only [Act.put, List.setIfInBounds_toArray, List.set_cons_zero, List.set_cons_succ, i64_w, i32_w]
          rfl
        refine pure_ (i := 16) (N := some 33) (v := undef) (a' := ?_) #[true, true, true, true, true, true, true, true, true, true, true, true, true, true, true, true, true, false, false] rfl rfl (by kernel_rfl) (fun _ _ _ h => h) (Or.inr ⟨by rfl, rfl⟩) ?_ ?_
        rotate_left
        · simp only [Act.put, List.setIfInBounds_toArray, List.set_cons_zero, List.set_cons_succ, i64_w, i32_w]
          rfl
        refine pure_ (i := 17) (N := some 34) (v := undef) (a' := ?_) #[true, true, true, true, true, true, true, true, true, true, true, true, true, true, true, true, true, true, false] rfl rfl (by kernel_rfl) (fun _ _ _ h => h) (Or.inr ⟨by rfl, rfl⟩) ?_ ?_
        rotate_left
        · simp only [Act.put, List.setIfInBounds_toArray, List.set_cons_zero, List.set_cons_succ, i64_w, i32_w]
          rfl
        refine pure_ (i := 18) (N := some 35) (v := ?_) (a' := ?_) #[true, true, true, true, true, true, true, true, true, true, true, true, true, true, true, true, true, true, true] rfl rfl (by kernel_rfl) (fun _ _ _ h => h) (Or.inl ⟨by rfl, ?_⟩) ?_ ?_
        rotate_left
        · intro w'
          go_simp
          with_reducible rfl
        rotate_left
        · simp only [Act.put, List.setIfInBounds_toArray, List.set_cons_zero, List.set_cons_succ, i64_w, i32_w]
          rfl
        refine done_ (by kernel_rfl) ?_
        go_wp2_with (fail)
        go_ret
        exact ⟨by rw [HRR.out]; first | done | rfl, (by repeat (first | exact HB3.out | apply pw_below_drewN | apply below_drew1))⟩
      | true =>
        rw [ho] at hone
        by_cases hi0 : i = 0
        · have HOK : Aside0 (okAt l i = true) := ⟨by subst hi0; rw [okAt0 HX.out]; exact ho⟩
          have hi1 : ¬ ((i : Int) > 0) := by omega
          have hi2 : decide (0 < i) = false := decide_eq_false (by omega)
          clear ho hi0
          refine start_ (n := 19) (S := fun w' => w'.cell? ⟨wr.heap.size, 0, none⟩ = some (.string a0) ∧ w'.cell? ⟨wr.heap.size, 1, none⟩ = some (.string a1) ∧ w'.cell? ⟨wr.heap.size, 2, none⟩ = some (.int .u8 a2) ∧ w'.cell? ⟨wr.heap.size, 3, none⟩ = some (.int .i64 a3) ∧ w'.cell? ⟨wr.heap.size, 4, none⟩ = some (.int .i64 a4) ∧ w'.cell? ⟨wr.heap.size, 5, none⟩ = some (.int .i64 a5) ∧ w'.cell? ⟨wr.heap.size, 6, none⟩ = some (.int .i64 a6) ∧ w'.cell? ⟨wr.heap.size, 7, none⟩ = some (.string a7)) (ds := []) #[false, false, false, false, false, false, false, false, false, false, false, false, false, false, false, false, false, false, false] (by kernel_rfl) rfl rfl ⟨zn0, zn1, zn2, zn3, zn4, zn5, zn6, zn7⟩ (fun hHeld => ?_)
          refine take_ (i := 0) (N := some 17) (v := ?_) (a' := ?_) #[true, false, false, false, false, false, false, false, false, false, false, false, false, false, false, false, false, false, false] rfl rfl (by kernel_rfl) (fun _ _ _ h => h) (Or.inl ⟨by rfl, ?_⟩) hHeld ?_ ?_
          rotate_left
          · rintro w' ⟨s0, s1, s2, s3, s4, s5, s6, s7⟩
            go_simp
            with_reducible rfl
          rotate_left
          · simp only [Act.put, List.setIfInBounds_toArray, List.set_cons_zero, List.set_cons_succ, i64_w, i32_w]
            rfl
          refine one_ (i := 1) (N := some 18) #[true, true, false, false, false, false, false, false, false, false, false, false, false, false, false, false, false, false, false] rfl rfl (by kernel_rfl) (by decide) (fun K hK => ?_)
          refine goes_ Try.func25 (by kernel_rfl) rfl #[.agg #[.string a0, .string a1, .int .u8 a2, .int .i64 a3, .int .i64 a4, .int .i64 a5, .int .i64 a6, .string a7]] (by rfl) rfl rfl (by (try simp only [List.map_toArray, List.map_cons, List.map_nil]); first | done | rfl | (simp only [List.length_drop, List.length_take]; rfl)) ?_
          refine (hone _).mono ?_
          rintro e w3 ⟨rfl, hb⟩
          have HB3 := Aside0.mk (below_step (below_drew1 (below_alloc HB.out (.cells #[.string a0, .string a1, .int .u8 a2, .int .i64 a3, .int .i64 a4, .int .i64 a5, .int .i64 a6, .string a7] 26))) hb)
          have HF3 := Aside0.mk (blk_below (blk_drew (blk_alloc HF.out (.cells #[.string a0, .string a1, .int .u8 a2, .int .i64 a3, .int .i64 a4, .int .i64 a5, .int .i64 a6, .string a7] 26))) hb)
          have HN3 := Aside0.mk (blk_below (blk_drew (heap_alloc_new wr (.cells #[.string a0, .string a1, .int .u8 a2, .int .i64 a3, .int .i64 a4, .int .i64 a5, .int .i64 a6, .string a7] 26))) hb)
          clear hb
          refine ⟨_, rfl, ?_⟩
          refine hK.out _ _ (cells8 HN3.out) (fun hHeld => ?_)
          clear hK K
          refine norm_ (a' := ?_) ?_ ?_
          rotate_left
          · show Act.put _ (some 18) _ = _
            simp only [Act.put, List.setIfInBounds_toArray, List.set_cons_zero, List.set_cons_succ, i64_w, i32_w]
            rfl
          refine pure_ (i := 2) (N := some 19) (v := ?_) (a' := ?_) #[true, true, true, false, false, false, false, false, false, false, false, false, false, false, false, false, false, false, false] rfl rfl (by kernel_rfl) (fun _ _ _ h => h) (Or.inl ⟨by rfl, ?_⟩) ?_ ?_
          rotate_left
          · intro w'
            go_simp
            with_reducible rfl
          rotate_left
          · simp only [Act.put, List.setIfInBounds_toArray, List.set_cons_zero, List.set_cons_succ, i64_w, i32_w]
            rfl
          refine pure_ (i := 3) (N := some 20) (v := ?_) (a' := ?_) #[true, true, true, true, false, false, false, false, false, false, false, false, false, false, false, false, false, false, false] rfl rfl (by kernel_rfl) (fun _ _ _ h => h) (Or.inl ⟨by rfl, ?_⟩) ?_ ?_
          rotate_left
          · intro w'
            go_simp
            with_reducible rfl
          rotate_left
          · simp only [Act.put, List.setIfInBounds_toArray, List.set_cons_zero, List.set_cons_succ, i64_w, i32_w]
            rfl
          refine pure_ (i := 4) (N := some 21) (v := ?_) (a' := ?_) #[true, true, true, true, true, false, false, false, false, false, false, false, false, false, false, false, false, false, false] rfl rfl (by kernel_rfl) (fun _ _ _ h => h) (Or.inl ⟨by rfl, ?_⟩) ?_ ?_
          rotate_left
          · intro w'
            go_simp
            with_reducible rfl
          rotate_left
          · simp only [Act.put, List.setIfInBounds_toArray, List.set_cons_zero, List.set_cons_succ, i64_w, i32_w]
            rfl
          refine pure_ (i := 5) (N := some 22) (v := ?_) (a' := ?_) #[true, true, true, true, true, true, false, false, false, false, false, false, false, false, false, false, false, false, false] rfl rfl (by kernel_rfl) (fun _ _ _ h => h) (Or.inl ⟨by rfl, ?_⟩) ?_ ?_
          rotate_left
          · intro w'
            go_simp
            with_reducible rfl
          rotate_left
          · simp only [Act.put, List.setIfInBounds_toArray, List.set_cons_zero, List.set_cons_succ, i64_w, i32_w]
            rfl
          refine pure_ (i := 6) (N := some 23) (v := ?_) (a' := ?_) #[true, true, true, true, true, true, true, false, false, false, false, false, false, false, false, false, false, false, false] rfl rfl (by kernel_rfl) (fun _ _ _ h => h) (Or.inl ⟨by rfl, ?_⟩) ?_ ?_
          rotate_left
          · intro w'
            go_simp
            with_reducible rfl
          rotate_left
          · simp only [Act.put, List.setIfInBounds_toArray, List.set_cons_zero, List.set_cons_succ, i64_w, i32_w]
            rfl
          refine pure_ (i := 7) (N := some 24) (v := undef) (a' := ?_) #[true, true, true, true, true, true, true, true, false, false, false, false, false, false, false, false, false, false, false] rfl rfl (by kernel_rfl) (fun _ _ _ h => h) (Or.inr ⟨by rfl, rfl⟩) ?_ ?_
          rotate_left
          · simp only [Act.put, List.setIfInBounds_toArray, List.set_cons_zero, List.set_cons_succ, i64_w, i32_w]
            rfl
          refine pure_ (i := 8) (N := some 25) (v := undef) (a' := ?_) #[true, true, true, true, true, true, true, true, true, false, false, false, false, false, false, false, false, false, false] rfl rfl (by kernel_rfl) (fun _ _ _ h => h) (Or.inr ⟨by rfl, rfl⟩) ?_ ?_
          rotate_left
          · simp only [Act.put, List.setIfInBounds_toArray, List.set_cons_zero, List.set_cons_succ, i64_w, i32_w]
            rfl
          refine pure_ (i := 9) (N := some 26) (v := undef) (a' := ?_) #[true, true, true, true, true, true, true, true, true, true, false, false, false, false, false, false, false, false, false] rfl rfl (by kernel_rfl) (fun _ _ _ h => h) (Or.inr ⟨by rfl, rfl⟩) ?_ ?_
          rotate_left
          · simp only [Act.put, List.setIfInBounds_toArray, List.set_cons_zero, List.set_cons_succ, i64_w, i32_w]
            rfl
          refine pure_ (i := 10) (N := some 27) (v := undef) (a' := ?_) #[true, true, true, true, true, true, true, true, true, true, true, false, false, false, false, false, false, false, false] rfl rfl (by kernel_rfl) (fun _ _ _ h => h) (Or.inr ⟨by rfl, rfl⟩) ?_ ?_
          rotate_left
          · simp only [Act.put, List.setIfInBounds_toArray, List.set_cons_zero, List.set_cons_succ, i64_w, i32_w]
            rfl
          refine pure_ (i := 11) (N := some 28) (v := undef) (a' := ?_) #[true, true, true, true, true, true, true, true, true, true, true, true, false, false, false, false, false, false, false] rfl rfl (by kernel_rfl) (fun _ _ _ h => h) (Or.inr ⟨by rfl, rfl⟩) ?_ ?_
          rotate_left
          · simp only [Act.put, List.setIfInBounds_toArray, List.set_cons_zero, List.set_cons_succ, i64_w, i32_w]
            rfl
          refine pure_ (i := 12) (N := some 29) (v := undef) (a' := ?_) #[true, true, true, true, true, true, true, true, true, true, true, true, true, false, false, false, false, false, false] rfl rfl (by kernel_rfl) (fun _ _ _ h => h) (Or.inr ⟨by rfl, rfl⟩) ?_ ?_
          rotate_left
          · simp only [Act.put, List.setIfInBounds_toArray, List.set_cons_zero, List.set_cons_succ, i64_w, i32_w]
            rfl
          refine pure_ (i := 13) (N := some 30) (v := undef) (a' := ?_) #[true, true, true, true, true, true, true, true, true, true, true, true, true, true, false, false, false, false, false] rfl rfl (by kernel_rfl) (fun _ _ _ h => h) (Or.inr ⟨by rfl, rfl⟩) ?_ ?_
          rotate_left
          · simp only [Act.put, List.setIfInBounds_toArray, List.set_cons_zero, List.set_cons_succ, i64_w, i32_w]
            rfl
          refine pure_ (i := 14) (N := some 31) (v := undef) (a' := ?_) #[true, true, true, true, true, true, true, true, true, true, true, true, true, true, true, false, false, false, false] rfl rfl (by kernel_rfl) (fun _ _ _ h => h) (Or.inr ⟨by rfl, rfl⟩) ?_ ?_
          rotate_left
          · simp only [Act.put, List.setIfInBounds_toArray, List.set_cons_zero, List.set_cons_succ, i64_w, i32_w]
            rfl
          refine pure_ (i := 15) (N := some 32) (v := undef) (a' := ?_) #[true, true, true, true, true, true, true, true, true, true, true, true, true, true, true, true, false, false, false] rfl rfl (by kernel_rfl) (fun _ _ _ h => h) (Or.inr ⟨by rfl, rfl⟩) ?_ ?_
          rotate_left
          · simp only [Act.put, List.setIfInBounds_toArray, List.set_cons_zero, List.set_cons_succ, i64_w, i32_w]
            rfl
          refine pure_ (i := 16) (N := some 33) (v := undef) (a' := ?_) #[true, true, true, true, true, true, true, true, true, true, true, true, true, true, true, true, true, false, false] rfl rfl (by kernel_rfl) (fun _ _ _ h => h) (Or.inr ⟨by rfl, rfl⟩) ?_ ?_
          rotate_left
          · simp only [Act.put, List.setIfInBounds_toArray, List.set_cons_zero, List.set_cons_succ, i64_w, i32_w]
            rfl
          refine pure_ (i := 17) (N := some 34) (v := ?_) (a' := ?_) #[true, true, true, true, true, true, true, true, true, true, true, true, true, true, true, true, true, true, false] rfl rfl (by kernel_rfl) (fun _ _ _ h => h) (Or.inl ⟨by rfl, ?_⟩) ?_ ?_
          rotate_left
          · intro w'
            go_simp
            with_reducible rfl
          rotate_left
          · simp only [Act.put, List.setIfInBounds_toArray, List.set_cons_zero, List.set_cons_succ, i64_w, i32_w]
            rfl
          refine pure_ (i := 18) (N := some 35) (v := ?_) (a' := ?_) #[true, true, true, true, true, true, true, true, true, true, true, true, true, true, true, true, true, true, true] rfl rfl (by kernel_rfl) (fun _ _ _ h => h) (Or.inl ⟨by rfl, ?_⟩) ?_ ?_
          rotate_left
          · intro w'
            go_simp
            with_reducible rfl
          rotate_left
          · simp only [Act.put, List.setIfInBounds_toArray, List.set_cons_zero, List.set_cons_succ, i64_w, i32_w]
            rfl
          refine done_ (by kernel_rfl) ?_
          go_wp2_with (fail)
          go_roundw
          case rel => exact ⟨i + 1, by go_num, by omega, ⟨fun j hj => (Nat.lt_or_ge j i).elim (fun e => HP.out j e) (fun e => by rw [show j = i from (by omega)]; exact HOK.out)⟩, ⟨(by repeat (first | exact HB3.out | apply pw_below_drewN | apply below_drew1))⟩, ⟨(by repeat (first | exact HF3.out | apply blk_drewN | apply blk_drew))⟩⟩
          case measure => simp [intOf]; omega
        · obtain ⟨k, hki⟩ : ∃ k, i = k + 1 := ⟨i - 1, by omega⟩
          have hi1 : (i : Int) > 0 := by omega
          have hi2 : decide (0 < i) = true := decide_eq_true (by omega)
          have hk : k < l.length := by omega
          obtain ⟨y, hy⟩ : ∃ y, l[k]? = some y := ⟨_, List.getElem?_eq_getElem hk⟩
          have HY := Aside0.mk hy
          have hw1 : IntKind.i64.wrap ((i : Int) - 1) = (k : Int) := by rw [i64_w, wrap_id (by omega) (by omega)]; omega
          have hk0 : (0 : Int) ≤ (k : Int) := by omega
          have hk2 : (k : Int) < (l.length : Int) := by omega
          have zf1 := (blk_cell (blk_alloc HF.out (.cells #[.string a0, .string a1, .int .u8 a2, .int .i64 a3, .int .i64 a4, .int .i64 a5, .int .i64 a6, .string a7] 26)) 0).trans (show _ = some (Value.slice (some ad) l.length c) from rfl)
          have zp1 : (wr.alloc (.cells #[.string a0, .string a1, .int .u8 a2, .int .i64 a3, .int .i64 a4, .int .i64 a5, .int .i64 a6, .string a7] 26)).cell? (ad.add (k * 8)) = some (.string y.f0) := (nd_cells (Kd.C_below HC.out (below_alloc HB.out (.cells #[.string a0, .string a1, .int .u8 a2, .int .i64 a3, .int .i64 a4, .int .i64 a5, .int .i64 a6, .string a7] 26))) hk y HY.out).elim (fun _ h_ => (Option.some.inj h_.1) ▸ h_.2.1)
          have hokq : okAt l i = !leB a0 y.f0 := by subst hki; rw [okAt_succ HX.out HY.out, ho]; rfl
          clear ho hi0 hy hki
          cases hle : leB a0 y.f0 with
          | true =>
            have HRR := Aside0.mk (HBad.out hlt (by rw [hokq, hle]; rfl))
            unfold leB at hle
            refine start_ (n := 19) (S := fun w' => w'.cell? ⟨wr.heap.size, 0, none⟩ = some (.string a0) ∧ w'.cell? ⟨wr.heap.size, 1, none⟩ = some (.string a1) ∧ w'.cell? ⟨wr.heap.size, 2, none⟩ = some (.int .u8 a2) ∧ w'.cell? ⟨wr.heap.size, 3, none⟩ = some (.int .i64 a3) ∧ w'.cell? ⟨wr.heap.size, 4, none⟩ = some (.int .i64 a4) ∧ w'.cell? ⟨wr.heap.size, 5, none⟩ = some (.int .i64 a5) ∧ w'.cell? ⟨wr.heap.size, 6, none⟩ = some (.int .i64 a6) ∧ w'.cell? ⟨wr.heap.size, 7, none⟩ = some (.string a7) ∧ w'.cell? ⟨w.heap.size, 0, none⟩ = some (.slice (some ad) l.length c) ∧ w'.cell? (ad.add (k * 8)) = some (.string y.f0)) (ds := []) #[false, false, false, false, false, false, false, false, false, false, false, false, false, false, false, false, false, false, false] (by kernel_rfl) rfl rfl ⟨zn0, zn1, zn2, zn3, zn4, zn5, zn6, zn7, zf1, zp1⟩ (fun hHeld => ?_)
            refine take_ (i := 0) (N := some 17) (v := ?_) (a' := ?_) #[true, false, false, false, false, false, false, false, false, false, false, false, false, false, false, false, false, false, false] rfl rfl (by kernel_rfl) (fun _ _ _ h => h) (Or.inl ⟨by rfl, ?_⟩) hHeld ?_ ?_
            rotate_left
            · rintro w' ⟨s0, s1, s2, s3, s4, s5, s6, s7, s8, s9⟩
              go_simp
              with_reducible rfl
            rotate_left
            · simp only [Act.put, List.setIfInBounds_toArray, List.set_cons_zero, List.set_cons_succ, i64_w, i32_w]
              rfl
            refine one_ (i := 1) (N := some 18) #[true, true, false, false, false, false, false, false, false, false, false, false, false, false, false, false, false, false, false] rfl rfl (by kernel_rfl) (by decide) (fun K hK => ?_)
            refine goes_ Try.func25 (by kernel_rfl) rfl #[.agg #[.string a0, .string a1, .int .u8 a2, .int .i64 a3, .int .i64 a4, .int .i64 a5, .int .i64 a6, .string a7]] (by rfl) rfl rfl (by (try simp only [List.map_toArray, List.map_cons, List.map_nil]); first | done | rfl | (simp only [List.length_drop, List.length_take]; rfl)) ?_
            refine (hone _).mono ?_
            rintro e w3 ⟨rfl, hb⟩
            have HB3 := Aside0.mk (below_step (below_drew1 (below_alloc HB.out (.cells #[.string a0, .string a1, .int .u8 a2, .int .i64 a3, .int .i64 a4, .int .i64 a5, .int .i64 a6, .string a7] 26))) hb)
            have HF3 := Aside0.mk (blk_below (blk_drew (blk_alloc HF.out (.cells #[.string a0, .string a1, .int .u8 a2, .int .i64 a3, .int .i64 a4, .int .i64 a5, .int .i64 a6, .string a7] 26))) hb)
            have HN3 := Aside0.mk (blk_below (blk_drew (heap_alloc_new wr (.cells #[.string a0, .string a1, .int .u8 a2, .int .i64 a3, .int .i64 a4, .int .i64 a5, .int .i64 a6, .string a7] 26))) hb)
            clear hb
            refine ⟨_, rfl, ?_⟩
            refine hK.out _ _ ⟨(cells8 HN3.out).1, (cells8 HN3.out).2.1, (cells8 HN3.out).2.2.1, (cells8 HN3.out).2.2.2.1, (cells8 HN3.out).2.2.2.2.1, (cells8 HN3.out).2.2.2.2.2.1, (cells8 HN3.out).2.2.2.2.2.2.1, (cells8 HN3.out).2.2.2.2.2.2.2, (blk_cell HF3.out 0).trans rfl, (nd_cells (Kd.C_below HC.out HB3.out) hk y HY.out).elim (fun _ h_ => (Option.some.inj h_.1) ▸ h_.2.1)⟩ (fun hHeld => ?_)
            clear hK K
            refine norm_ (a' := ?_) ?_ ?_
            rotate_left
            · show Act.put _ (some 18) _ = _
              simp only [Act.put, List.setIfInBounds_toArray, List.set_cons_zero, List.set_cons_succ, i64_w, i32_w]
              rfl
            refine pure_ (i := 2) (N := some 19) (v := ?_) (a' := ?_) #[true, true, true, false, false, false, false, false, false, false, false, false, false, false, false, false, false, false, false] rfl rfl (by kernel_rfl) (fun _ _ _ h => h) (Or.inl ⟨by rfl, ?_⟩) ?_ ?_
            rotate_left
            · intro w'
              go_simp
              with_reducible rfl
            rotate_left
            · simp only [Act.put, List.setIfInBounds_toArray, List.set_cons_zero, List.set_cons_succ, i64_w, i32_w]
              rfl
            refine pure_ (i := 3) (N := some 20) (v := ?_) (a' := ?_) #[true, true, true, true, false, false, false, false, false, false, false, false, false, false, false, false, false, false, false] rfl rfl (by kernel_rfl) (fun _ _ _ h => h) (Or.inl ⟨by rfl, ?_⟩) ?_ ?_
            rotate_left
            · intro w'
              go_simp
              with_reducible rfl
            rotate_left
            · simp only [Act.put, List.setIfInBounds_toArray, List.set_cons_zero, List.set_cons_succ, i64_w, i32_w]
              rfl
            refine pure_ (i := 4) (N := some 21) (v := ?_) (a' := ?_) #[true, true, true, true, true, false, false, false, false, false, false, false, false, false, false, false, false, false, false] rfl rfl (by kernel_rfl) (fun _ _ _ h => h) (Or.inl ⟨by rfl, ?_⟩) ?_ ?_
            rotate_left
            · intro w'
              go_simp
              with_reducible rfl
            rotate_left
            · simp only [Act.put, List.setIfInBounds_toArray, List.set_cons_zero, List.set_cons_succ, i64_w, i32_w]
              rfl
            refine pure_ (i := 5) (N := some 22) (v := ?_) (a' := ?_) #[true, true, true, true, true, true, false, false, false, false, false, false, false, false, false, false, false, false, false] rfl rfl (by kernel_rfl) (fun _ _ _ h => h) (Or.inl ⟨by rfl, ?_⟩) ?_ ?_
            rotate_left
            · intro w'
              go_simp
              with_reducible rfl
            rotate_left
            · simp only [Act.put, List.setIfInBounds_toArray, List.set_cons_zero, List.set_cons_succ, i64_w, i32_w]
              rfl
            refine pure_ (i := 6) (N := some 23) (v := ?_) (a' := ?_) #[true, true, true, true, true, true, true, false, false, false, false, false, false, false, false, false, false, false, false] rfl rfl (by kernel_rfl) (fun _ _ _ h => h) (Or.inl ⟨by rfl, ?_⟩) ?_ ?_
            rotate_left
            · intro w'
              go_simp
              with_reducible rfl
            rotate_left
            · simp only [Act.put, List.setIfInBounds_toArray, List.set_cons_zero, List.set_cons_succ, i64_w, i32_w]
              rfl
            refine pure_ (i := 7) (N := some 24) (v := ?_) (a' := ?_) #[true, true, true, true, true, true, true, true, false, false, false, false, false, false, false, false, false, false, false] rfl rfl (by kernel_rfl) (fun _ _ _ h => h) (Or.inl ⟨by rfl, ?_⟩) ?_ ?_
            rotate_left
            · intro w'
              go_simp
              with_reducible rfl
            rotate_left
            · simp only [Act.put, List.setIfInBounds_toArray, List.set_cons_zero, List.set_cons_succ, i64_w, i32_w]
              rfl
            refine take_ (i := 8) (N := some 25) (v := ?_) (a' := ?_) #[true, true, true, true, true, true, true, true, true, false, false, false, false, false, false, false, false, false, false] rfl rfl (by kernel_rfl) (fun _ _ _ h => h) (Or.inl ⟨by rfl, ?_⟩) hHeld ?_ ?_
            rotate_left
            · rintro w' ⟨s0, s1, s2, s3, s4, s5, s6, s7, s8, s9⟩
              go_simp
              with_reducible rfl
            rotate_left
            · simp only [Act.put, List.setIfInBounds_toArray, List.set_cons_zero, List.set_cons_succ, i64_w, i32_w]
              rfl
            refine pure_ (i := 9) (N := some 26) (v := ?_) (a' := ?_) #[true, true, true, true, true, true, true, true, true, true, false, false, false, false, false, false, false, false, false] rfl rfl (by kernel_rfl) (fun _ _ _ h => h) (Or.inl ⟨by rfl, ?_⟩) ?_ ?_
            rotate_left
            · intro w'
              go_simp
              with_reducible rfl
            rotate_left
            · simp only [Act.put, List.setIfInBounds_toArray, List.set_cons_zero, List.set_cons_succ, i64_w, i32_w]
              rfl
            refine take_ (i := 10) (N := some 27) (v := ?_) (a' := ?_) #[true, true, true, true, true, true, true, true, true, true, true, false, false, false, false, false, false, false, false] rfl rfl (by kernel_rfl) (fun _ _ _ h => h) (Or.inl ⟨by rfl, ?_⟩) hHeld ?_ ?_
            rotate_left
            · rintro w' ⟨s0, s1, s2, s3, s4, s5, s6, s7, s8, s9⟩
              go_simp
              with_reducible rfl
            rotate_left
            · simp only [Act.put, List.setIfInBounds_toArray, List.set_cons_zero, List.set_cons_succ, i64_w, i32_w]
              rfl
            refine pure_ (i := 11) (N := some 28) (v := ?_) (a' := ?_) #[true, true, true, true, true, true, true, true, true, true, true, true, false, false, false, false, false, false, false] rfl rfl (by kernel_rfl) (fun _ _ _ h => h) (Or.inl ⟨by rfl, ?_⟩) ?_ ?_
            rotate_left
            · intro w'
              go_simp
              with_reducible rfl
            rotate_left
            · simp only [Act.put, List.setIfInBounds_toArray, List.set_cons_zero, List.set_cons_succ, i64_w, i32_w]
              rfl
            refine pure_ (i := 12) (N := some 29) (v := ?_) (a' := ?_) #[true, true, true, true, true, true, true, true, true, true, true, true, true, false, false, false, false, false, false] rfl rfl (by kernel_rfl) (fun _ _ _ h => h) (Or.inl ⟨by rfl, ?_⟩) ?_ ?_
            rotate_left
            · intro w'
              go_simp
              with_reducible rfl
            rotate_left
            · simp only [Act.put, List.setIfInBounds_toArray, List.set_cons_zero, List.set_cons_succ, i64_w, i32_w]
              rfl
            refine pure_ (i := 13) (N := some 30) (v := ?_) (a' := ?_) #[true, true, true, true, true, true, true, true, true, true, true, true, true, true, false, false, false, false, false] rfl rfl (by kernel_rfl) (fun _ _ _ h => h) (Or.inl ⟨by rfl, ?_⟩) ?_ ?_
            rotate_left
            · intro w'
              go_simp
              with_reducible rfl
            rotate_left
            · simp only [Act.put, List.setIfInBounds_toArray, List.set_cons_zero, List.set_cons_succ, i64_w, i32_w]
              rfl
            refine pure_ (i := 14) (N := some 31) (v := ?_) (a' := ?_) #[true, true, true, true, true, true, true, true, true, true, true, true, true, true, true, false, false, false, false] rfl rfl (by kernel_rfl) (fun _ _ _ h => h) (Or.inl ⟨by rfl, ?_⟩) ?_ ?_
            rotate_left
            · intro w'
              go_simp
              with_reducible rfl
            rotate_left
            · simp only [Act.put, List.setIfInBounds_toArray, List.set_cons_zero, List.set_cons_succ, i64_w, i32_w]
              rfl
            refine take_ (i := 15) (N := some 32) (v := ?_) (a' := ?_) #[true, true, true, true, true, true, true, true, true, true, true, true, true, true, true, true, false, false, false] rfl rfl (by kernel_rfl) (fun _ _ _ h => h) (Or.inl ⟨by rfl, ?_⟩) hHeld ?_ ?_
            rotate_left
            · rintro w' ⟨s0, s1, s2, s3, s4, s5, s6, s7, s8, s9⟩
              go_simp
              with_reducible rfl
            rotate_left
            · simp only [Act.put, List.setIfInBounds_toArray, List.set_cons_zero, List.set_cons_succ, i64_w, i32_w]
              rfl
            refine pure_ (i := 16) (N := some 33) (v := ?_) (a' := ?_) #[true, true, true, true, true, true, true, true, true, true, true, true, true, true, true, true, true, false, false] rfl rfl (by kernel_rfl) (fun _ _ _ h => h) (Or.inl ⟨by rfl, ?_⟩) ?_ ?_
            rotate_left
            · intro w'
              go_simp
              with_reducible rfl
            rotate_left
            · simp only [Act.put, List.setIfInBounds_toArray, List.set_cons_zero, List.set_cons_succ, i64_w, i32_w]
              rfl
            refine pure_ (i := 17) (N := some 34) (v := ?_) (a' := ?_) #[true, true, true, true, true, true, true, true, true, true, true, true, true, true, true, true, true, true, false] rfl rfl (by kernel_rfl) (fun _ _ _ h => h) (Or.inl ⟨by rfl, ?_⟩) ?_ ?_
            rotate_left
            · intro w'
              go_simp
              with_reducible rfl
            rotate_left
            · simp only [Act.put, List.setIfInBounds_toArray, List.set_cons_zero, List.set_cons_succ, i64_w, i32_w]
              rfl
            refine pure_ (i := 18) (N := some 35) (v := ?_) (a' := ?_) #[true, true, true, true, true, true, true, true, true, true, true, true, true, true, true, true, true, true, true] rfl rfl (by kernel_rfl) (fun _ _ _ h => h) (Or.inl ⟨by rfl, ?_⟩) ?_ ?_
            rotate_left
            · intro w'
              go_simp
              with_reducible rfl
            rotate_left
            · simp only [Act.put, List.setIfInBounds_toArray, List.set_cons_zero, List.set_cons_succ, i64_w, i32_w]
              rfl
            refine done_ (by kernel_rfl) ?_
            go_wp2_with (fail)
            go_ret
            exact ⟨by rw [HRR.out]; first | done | rfl, (by repeat (first | exact HB3.out | apply pw_below_drewN | apply below_drew1))⟩
          | false =>
            have HOK : Aside0 (okAt l i = true) := ⟨by rw [hokq, hle]; rfl⟩
            unfold leB at hle
            refine start_ (n := 19) (S := fun w' => w'.cell? ⟨wr.heap.size, 0, none⟩ = some (.string a0) ∧ w'.cell? ⟨wr.heap.size, 1, none⟩ = some (.string a1) ∧ w'.cell? ⟨wr.heap.size, 2, none⟩ = some (.int .u8 a2) ∧ w'.cell? ⟨wr.heap.size, 3, none⟩ = some (.int .i64 a3) ∧ w'.cell? ⟨wr.heap.size, 4, none⟩ = some (.int .i64 a4) ∧ w'.cell? ⟨wr.heap.size, 5, none⟩ = some (.int .i64 a5) ∧ w'.cell? ⟨wr.heap.size, 6, none⟩ = some (.int .i64 a6) ∧ w'.cell? ⟨wr.heap.size, 7, none⟩ = some (.string a7) ∧ w'.cell? ⟨w.heap.size, 0, none⟩ = some (.slice (some ad) l.length c) ∧ w'.cell? (ad.add (k * 8)) = some (.string y.f0)) (ds := []) #[false, false, false, false, false, false, false, false, false, false, false, false, false, false, false, false, false, false, false] (by kernel_rfl) rfl rfl ⟨zn0, zn1, zn2, zn3, zn4, zn5, zn6, zn7, zf1, zp1⟩ (fun hHeld => ?_)
            refine take_ (i := 0) (N := some 17) (v := ?_) (a' := ?_) #[true, false, false, false, false, false, false, false, false, false, false, false, false, false, false, false, false, false, false] rfl rfl (by kernel_rfl) (fun _ _ _ h => h) (Or.inl ⟨by rfl, ?_⟩) hHeld ?_ ?_
            rotate_left
            · rintro w' ⟨s0, s1, s2, s3, s4, s5, s6, s7, s8, s9⟩
              go_simp
              with_reducible rfl
            rotate_left
            · simp only [Act.put, List.setIfInBounds_toArray, List.set_cons_zero, List.set_cons_succ, i64_w, i32_w]
              rfl
            refine one_ (i := 1) (N := some 18) #[true, true, false, false, false, false, false, false, false, false, false, false, false, false, false, false, false, false, false] rfl rfl (by kernel_rfl) (by decide) (fun K hK => ?_)
            refine goes_ Try.func25 (by kernel_rfl) rfl #[.agg #[.string a0, .string a1, .int .u8 a2, .int .i64 a3, .int .i64 a4, .int .i64 a5, .int .i64 a6, .string a7]] (by rfl) rfl rfl (by (try simp only [List.map_toArray, List.map_cons, List.map_nil]); first | done | rfl | (simp only [List.length_drop, List.length_take]; rfl)) ?_
            refine (hone _).mono ?_
            rintro e w3 ⟨rfl, hb⟩
            have HB3 := Aside0.mk (below_step (below_drew1 (below_alloc HB.out (.cells #[.string a0, .string a1, .int .u8 a2, .int .i64 a3, .int .i64 a4, .int .i64 a5, .int .i64 a6, .string a7] 26))) hb)
            have HF3 := Aside0.mk (blk_below (blk_drew (blk_alloc HF.out (.cells #[.string a0, .string a1, .int .u8 a2, .int .i64 a3, .int .i64 a4, .int .i64 a5, .int .i64 a6, .string a7] 26))) hb)
            have HN3 := Aside0.mk (blk_below (blk_drew (heap_alloc_new wr (.cells #[.string a0, .string a1, .int .u8 a2, .int .i64 a3, .int .i64 a4, .int .i64 a5, .int .i64 a6, .string a7] 26))) hb)
            clear hb
            refine ⟨_, rfl, ?_⟩
            refine hK.out _ _ ⟨(cells8 HN3.out).1, (cells8 HN3.out).2.1, (cells8 HN3.out).2.2.1, (cells8 HN3.out).2.2.2.1, (cells8 HN3.out).2.2.2.2.1, (cells8 HN3.out).2.2.2.2.2.1, (cells8 HN3.out).2.2.2.2.2.2.1, (cells8 HN3.out).2.2.2.2.2.2.2, (blk_cell HF3.out 0).trans rfl, (nd_cells (Kd.C_below HC.out HB3.out) hk y HY.out).elim (fun _ h_ => (Option.some.inj h_.1) ▸ h_.2.1)⟩ (fun hHeld => ?_)
            clear hK K
            refine norm_ (a' := ?_) ?_ ?_
            rotate_left
            · show Act.put _ (some 18) _ = _
              simp only [Act.put, List.setIfInBounds_toArray, List.set_cons_zero, List.set_cons_succ, i64_w, i32_w]
              rfl
            refine pure_ (i := 2) (N := some 19) (v := ?_) (a' := ?_) #[true, true, true, false, false, false, false, false, false, false, false, false, false, false, false, false, false, false, false] rfl rfl (by kernel_rfl) (fun _ _ _ h => h) (Or.inl ⟨by rfl, ?_⟩) ?_ ?_
            rotate_left
            · intro w'
              go_simp
              with_reducible rfl
            rotate_left
            · simp only [Act.put, List.setIfInBounds_toArray, List.set_cons_zero, List.set_cons_succ, i64_w, i32_w]
              rfl
            refine pure_ (i := 3) (N := some 20) (v := ?_) (a' := ?_) #[true, true, true, true, false, false, false, false, false, false, false, false, false, false, false, false, false, false, false] rfl rfl (by kernel_rfl) (fun _ _ _ h => h) (Or.inl ⟨by rfl, ?_⟩) ?_ ?_
            rotate_left
            · intro w'
              go_simp
              with_reducible rfl
            rotate_left
            · simp only [Act.put, List.setIfInBounds_toArray, List.set_cons_zero, List.set_cons_succ, i64_w, i32_w]
              rfl
            refine pure_ (i := 4) (N := some 21) (v := ?_) (a' := ?_) #[true, true, true, true, true, false, false, false, false, false, false, false, false, false, false, false, false, false, false] rfl rfl (by kernel_rfl) (fun _ _ _ h => h) (Or.inl ⟨by rfl, ?_⟩) ?_ ?_
            rotate_left
            · intro w'
              go_simp
              with_reducible rfl
            rotate_left
            · simp only [Act.put, List.setIfInBounds_toArray, List.set_cons_zero, List.set_cons_succ, i64_w, i32_w]
              rfl
            refine pure_ (i := 5) (N := some 22) (v := ?_) (a' := ?_) #[true, true, true, true, true, true, false, false, false, false, false, false, false, false, false, false, false, false, false] rfl rfl (by kernel_rfl) (fun _ _ _ h => h) (Or.inl ⟨by rfl, ?_⟩) ?_ ?_
            rotate_left
            · intro w'
              go_simp
              with_reducible rfl
            rotate_left
            · simp only [Act.put, List.setIfInBounds_toArray, List.set_cons_zero, List.set_cons_succ, i64_w, i32_w]
              rfl
            refine pure_ (i := 6) (N := some 23) (v := ?_) (a' := ?_) #[true, true, true, true, true, true, true, false, false, false, false, false, false, false, false, false, false, false, false] rfl rfl (by kernel_rfl) (fun _ _ _ h => h) (Or.inl ⟨by rfl, ?_⟩) ?_ ?_
            rotate_left
            · intro w'
              go_simp
              with_reducible rfl
            rotate_left
            · simp only [Act.put, List.setIfInBounds_toArray, List.set_cons_zero, List.set_cons_succ, i64_w, i32_w]
              rfl
            refine pure_ (i := 7) (N := some 24) (v := ?_) (a' := ?_) #[true, true, true, true, true, true, true, true, false, false, false, false, false, false, false, false, false, false, false] rfl rfl (by kernel_rfl) (fun _ _ _ h => h) (Or.inl ⟨by rfl, ?_⟩) ?_ ?_
            rotate_left
            · intro w'
              go_simp
              with_reducible rfl
            rotate_left
            · simp only [Act.put, List.setIfInBounds_toArray, List.set_cons_zero, List.set_cons_succ, i64_w, i32_w]
              rfl
            refine take_ (i := 8) (N := some 25) (v := ?_) (a' := ?_) #[true, true, true, true, true, true, true, true, true, false, false, false, false, false, false, false, false, false, false] rfl rfl (by kernel_rfl) (fun _ _ _ h => h) (Or.inl ⟨by rfl, ?_⟩) hHeld ?_ ?_
            rotate_left
            · rintro w' ⟨s0, s1, s2, s3, s4, s5, s6, s7, s8, s9⟩
              go_simp
              with_reducible rfl
            rotate_left
            · simp only [Act.put, List.setIfInBounds_toArray, List.set_cons_zero, List.set_cons_succ, i64_w, i32_w]
              rfl
            refine pure_ (i := 9) (N := some 26) (v := ?_) (a' := ?_) #[true, true, true, true, true, true, true, true, true, true, false, false, false, false, false, false, false, false, false] rfl rfl (by kernel_rfl) (fun _ _ _ h => h) (Or.inl ⟨by rfl, ?_⟩) ?_ ?_
            rotate_left
            · intro w'
              go_simp
              with_reducible rfl
            rotate_left
            · simp only [Act.put, List.setIfInBounds_toArray, List.set_cons_zero, List.set_cons_succ, i64_w, i32_w]
              rfl
            refine take_ (i := 10) (N := some 27) (v := ?_) (a' := ?_) #[true, true, true, true, true, true, true, true, true, true, true, false, false, false, false, false, false, false, false] rfl rfl (by kernel_rfl) (fun _ _ _ h => h) (Or.inl ⟨by rfl, ?_⟩) hHeld ?_ ?_
            rotate_left
            · rintro w' ⟨s0, s1, s2, s3, s4, s5, s6, s7, s8, s9⟩
              go_simp
              with_reducible rfl
            rotate_left
            · simp only [Act.put, List.setIfInBounds_toArray, List.set_cons_zero, List.set_cons_succ, i64_w, i32_w]
              rfl
            refine pure_ (i := 11) (N := some 28) (v := ?_) (a' := ?_) #[true, true, true, true, true, true, true, true, true, true, true, true, false, false, false, false, false, false, false] rfl rfl (by kernel_rfl) (fun _ _ _ h => h) (Or.inl ⟨by rfl, ?_⟩) ?_ ?_
            rotate_left
            · intro w'
              go_simp
              with_reducible rfl
            rotate_left
            · simp only [Act.put, List.setIfInBounds_toArray, List.set_cons_zero, List.set_cons_succ, i64_w, i32_w]
              rfl
            refine pure_ (i := 12) (N := some 29) (v := ?_) (a' := ?_) #[true, true, true, true, true, true, true, true, true, true, true, true, true, false, false, false, false, false, false] rfl rfl (by kernel_rfl) (fun _ _ _ h => h) (Or.inl ⟨by rfl, ?_⟩) ?_ ?_
            rotate_left
            · intro w'
              go_simp
              with_reducible rfl
            rotate_left
            · simp only [Act.put, List.setIfInBounds_toArray, List.set_cons_zero, List.set_cons_succ, i64_w, i32_w]
              rfl
            refine pure_ (i := 13) (N := some 30) (v := ?_) (a' := ?_) #[true, true, true, true, true, true, true, true, true, true, true, true, true, true, false, false, false, false, false] rfl rfl (by kernel_rfl) (fun _ _ _ h => h) (Or.inl ⟨by rfl, ?_⟩) ?_ ?_
            rotate_left
            · intro w'
              go_simp
              with_reducible rfl
            rotate_left
            · simp only [Act.put, List.setIfInBounds_toArray, List.set_cons_zero, List.set_cons_succ, i64_w, i32_w]
              rfl
            refine pure_ (i := 14) (N := some 31) (v := ?_) (a' := ?_) #[true, true, true, true, true, true, true, true, true, true, true, true, true, true, true, false, false, false, false] rfl rfl (by kernel_rfl) (fun _ _ _ h => h) (Or.inl ⟨by rfl, ?_⟩) ?_ ?_
            rotate_left
            · intro w'
              go_simp
              with_reducible rfl
            rotate_left
            · simp only [Act.put, List.setIfInBounds_toArray, List.set_cons_zero, List.set_cons_succ, i64_w, i32_w]
              rfl
            refine take_ (i := 15) (N := some 32) (v := ?_) (a' := ?_) #[true, true, true, true, true, true, true, true, true, true, true, true, true, true, true, true, false, false, false] rfl rfl (by kernel_rfl) (fun _ _ _ h => h) (Or.inl ⟨by rfl, ?_⟩) hHeld ?_ ?_
            rotate_left
            · rintro w' ⟨s0, s1, s2, s3, s4, s5, s6, s7, s8, s9⟩
              go_simp
              with_reducible rfl
            rotate_left
            · simp only [Act.put, List.setIfInBounds_toArray, List.set_cons_zero, List.set_cons_succ, i64_w, i32_w]
              rfl
            refine pure_ (i := 16) (N := some 33) (v := ?_) (a' := ?_) #[true, true, true, true, true, true, true, true, true, true, true, true, true, true, true, true, true, false, false] rfl rfl (by kernel_rfl) (fun _ _ _ h => h) (Or.inl ⟨by rfl, ?_⟩) ?_ ?_
            rotate_left
            · intro w'
              go_simp
              with_reducible rfl
            rotate_left
            · simp only [Act.put, List.setIfInBounds_toArray, List.set_cons_zero, List.set_cons_succ, i64_w, i32_w]
              rfl
            refine pure_ (i := 17) (N := some 34) (v := ?_) (a' := ?_) #[true, true, true, true, true, true, true, true, true, true, true, true, true, true, true, true, true, true, false] rfl rfl (by kernel_rfl) (fun _ _ _ h => h) (Or.inl ⟨by rfl, ?_⟩) ?_ ?_
            rotate_left
            · intro w'
              go_simp
              with_reducible rfl
            rotate_left
            · simp only [Act.put, List.setIfInBounds_toArray, List.set_cons_zero, List.set_cons_succ, i64_w, i32_w]
              rfl
            refine pure_ (i := 18) (N := some 35) (v := ?_) (a' := ?_) #[true, true, true, true, true, true, true, true, true, true, true, true, true, true, true, true, true, true, true] rfl rfl (by kernel_rfl) (fun _ _ _ h => h) (Or.inl ⟨by rfl, ?_⟩) ?_ ?_
            rotate_left
            · intro w'
              go_simp
              with_reducible rfl
            rotate_left
            · simp only [Act.put, List.setIfInBounds_toArray, List.set_cons_zero, List.set_cons_succ, i64_w, i32_w]
              rfl
            refine done_ (by kernel_rfl) ?_
            go_wp2_with (fail)
            go_roundw
            case rel => exact ⟨i + 1, by go_num, by omega, ⟨fun j hj => (Nat.lt_or_ge j i).elim (fun e => HP.out j e) (fun e => by rw [show j = i from (by omega)]; exact HOK.out)⟩, ⟨(by repeat (first | exact HB3.out | apply pw_below_drewN | apply below_drew1))⟩, ⟨(by repeat (first | exact HF3.out | apply blk_drewN | apply blk_drew))⟩⟩
            case measure => simp [intOf]; omega
    · obtain rfl : i = l.length := by omega
      have hlt2 : ¬ ((l.length : Int) < (l.length : Int)) := by omega
      have hend := HEnd.out hbig HP.out
      have hsort := sorted_of_rises HP.out
      have hask := fs_May1.ask A c l w.heap.size w hsort HC.out hl HO.out
      have hcf := slices_ContainsFunc_Node.at_ _ _ _ _ A c l hask wr (Kd.C_below HC.out HB.out) ⟨HF.out, HB.out⟩
      clear hask hsort
      have HRR := Aside0.mk hend
      clear hend
      generalize (l.any fun x => !standsB l x) = an at *
      go_wp2_with (first | (go_at_call 40; refine hcf.mono ?_; rintro e w2 ⟨rfl, hb2⟩))
      go_ret
      exact ⟨by rw [HRR.out]; first | done | rfl, below_step HB.out hb2⟩

end Go.Proofs.Ytklbnfpjjcidiaa.X
