import Derived.Test.YtekfgmpldgoglaaXK
import Derived.Test.YtekfgmpldgoglaaXGcont
import Derived.Test.YtekfgmpldgoglaaXGcontget
import Derived.Test.YtekfgmpldgoglaaXGhead
import Derived.Test.YtekfgmpldgoglaaXGheadGet
import Derived.Test.YtekfgmpldgoglaaXGlong
import Derived.Test.YtekfgmpldgoglaaXGpath
import Derived.Test.YtekfgmpldgoglaaXGsame
import Derived.Test.YtekfgmpldgoglaaXGslices
import Derived.Test.YtekfgmpldgoglaaXGtrim
import Derived.Test.YtekfgmpldgoglaaYAll
import Derived.Test.YtekfgmpldgoglaaP06o
import Derived.Test.YtekfgmpldgoglaaP15a
import Derived.Test.YtekfgmpldgoglaaP15b
import Derived.Test.YtekfgmpldgoglaaP15c
import Derived.Test.YtekfgmpldgoglaaPGA
import Derived.Test.YtekfgmpldgoglaaPGE
import Derived.Laws.EntriesVeiled
import Derived.WalkSpells
namespace Go.Proofs.Ytekfgmpldgoglaa.X
open Go.RowKit Go.Proofs.YtekfgmpldgoglaaW.PrintWords Go.Proofs.YtekfgmpldgoglaaW.PrintLast Go.Proofs.YtekfgmpldgoglaaW.PrintMore
attribute [local go_sem] max2_int min2_int max_two min_two
set_option linter.unusedVariables false
set_option linter.unusedSimpArgs false

open Go.Proofs.YtekfgmpldgoglaaY
theorem cont_put.one {n : Nd} (h : OneFacts n) {off whole : Int} (h0 : 0 ≤ off) (h1 : off ≤ whole) (h2 : whole ≤ 4000) (w : World) :
    Calls Try.prog 33 #[.agg #[.string n.f0, .string n.f1, .int .u8 n.f2, .int .i64 n.f3, .int .i64 n.f4, .int .i64 n.f5, .int .i64 n.f6, .string n.f7], .int .i64 off, .int .i64 whole] w fun e w' => ∃ v : Value, e = .returned v ∧ Kd.R kRow 41 w' w.heap.size (fun _ => True) v (contB n off whole) ∧ Below w.heap.size w w' := by
  have hz := mayL_pos h.path
  have hp := contPut_yes h h0 h1 h2
  have hs : IntKind.i64.wrap (whole - off) = whole - off := by rw [i64_w]; exact wrap_id (by omega) (by omega)
  unfold contB
  by_cases hb : 100 < n.f0.size
  · rw [if_pos hb]
    rw [show min n.f0.size 100 = 100 by omega] at hp
    obtain ⟨okl, hl⟩ : ∃ okl, long_Put.f 76 n.f0 = some (longL 76 n.f0, okl) := by
      refine ⟨true, ?_⟩
      rw [longPut_f (by omega) (by omega), longB_is (.inr rfl), if_pos (mayL_text h.path)]
    exact cont_put.at_ n.f0 n.f1 n.f2 n.f3 n.f4 n.f5 n.f6 n.f7 off whole (whole - off) _ (longL 76 n.f0) okl _ true w hs (by omega) (.inl ⟨hb, rfl, hl, by rw [longL_length]; unfold manyB; omega⟩) hp
  · rw [if_neg hb]
    rw [show min n.f0.size 100 = n.f0.size by omega, ByteArray.extract_zero_size] at hp
    exact cont_put.at_ n.f0 n.f1 n.f2 n.f3 n.f4 n.f5 n.f6 n.f7 off whole (whole - off) _ [] true _ true w hs (by omega) (.inr ⟨by omega, rfl, rfl⟩) hp
theorem store_nd {W : World} {g : Nat} {cs : Array Value} {T : TypeId} (hg : W.heap[g]? = some (.cells cs T (0, 0))) (hl : cs.size = 8) (x0 x1 x2 x3 x4 x5 x6 x7 : Value) :
    ((((((((W.setCell ⟨g, 0, none⟩ x0).setCell ⟨g, 1, none⟩ x1).setCell ⟨g, 2, none⟩ x2).setCell ⟨g, 3, none⟩ x3).setCell ⟨g, 4, none⟩ x4).setCell ⟨g, 5, none⟩ x5).setCell ⟨g, 6, none⟩ x6).setCell ⟨g, 7, none⟩ x7).heap[g]? = some (.cells #[x0, x1, x2, x3, x4, x5, x6, x7] T (0, 0)) := by
  have h := blk_set (blk_set (blk_set (blk_set (blk_set (blk_set (blk_set (blk_set hg 0 x0) 1 x1) 2 x2) 3 x3) 4 x4) 5 x5) 6 x6) 7 x7
  rw [h]
  obtain ⟨l⟩ := cs
  obtain ⟨a, b, c, d, e, f, g, i, rfl⟩ := list8 (show l.length = 8 from hl)
  simp only [List.setIfInBounds_toArray, List.set_cons_zero, List.set_cons_succ]
theorem below_nd {B : Nat} {w W : World} (h : Below B w W) {g : Nat} (hg : B ≤ g) (x0 x1 x2 x3 x4 x5 x6 x7 : Value) :
    Below B w ((((((((W.setCell ⟨g, 0, none⟩ x0).setCell ⟨g, 1, none⟩ x1).setCell ⟨g, 2, none⟩ x2).setCell ⟨g, 3, none⟩ x3).setCell ⟨g, 4, none⟩ x4).setCell ⟨g, 5, none⟩ x5).setCell ⟨g, 6, none⟩ x6).setCell ⟨g, 7, none⟩ x7) :=
  (((((((h.setCell (p := ⟨g, 0, none⟩) hg _).setCell (p := ⟨g, 1, none⟩) hg _).setCell (p := ⟨g, 2, none⟩) hg _).setCell (p := ⟨g, 3, none⟩) hg _).setCell (p := ⟨g, 4, none⟩) hg _).setCell (p := ⟨g, 5, none⟩) hg _).setCell (p := ⟨g, 6, none⟩) hg _).setCell (p := ⟨g, 7, none⟩) hg _
theorem far_nd {W : World} {g g' : Nat} {cs : Array Value} {T : TypeId} (hg : W.heap[g']? = some (.cells cs T (0, 0))) (hne : g' ≠ g) (x0 x1 x2 x3 x4 x5 x6 x7 : Value) :
    ((((((((W.setCell ⟨g, 0, none⟩ x0).setCell ⟨g, 1, none⟩ x1).setCell ⟨g, 2, none⟩ x2).setCell ⟨g, 3, none⟩ x3).setCell ⟨g, 4, none⟩ x4).setCell ⟨g, 5, none⟩ x5).setCell ⟨g, 6, none⟩ x6).setCell ⟨g, 7, none⟩ x7).heap[g']? = some (.cells cs T (0, 0)) :=
  blk_far (blk_far (blk_far (blk_far (blk_far (blk_far (blk_far (blk_far hg (p := ⟨g, 0, none⟩) hne x0) (p := ⟨g, 1, none⟩) hne x1) (p := ⟨g, 2, none⟩) hne x2) (p := ⟨g, 3, none⟩) hne x3) (p := ⟨g, 4, none⟩) hne x4) (p := ⟨g, 5, none⟩) hne x5) (p := ⟨g, 6, none⟩) hne x6) (p := ⟨g, 7, none⟩) hne x7
/-- 'next', at a row or behind the last one. -/
theorem cont_Get_2.all (b bl : Nat) (A : Option Addr) (c i : Nat) (l : List (List Int)) (w : World) (hb : w.heap[b]? = some (.cells #[.int .i64 i] 3 (0, 0))) (hl : w.heap[bl]? = some (.cells #[.slice A l.length c] 24 (0, 0))) (hC : Kd.C kRow w A l.length l) (hby : ∀ x ∈ l, ∀ y ∈ x, 0 ≤ y ∧ y ≤ 255) (hlm : l.length ≤ 1000000) :
    Calls Try.prog 37 #[.pointer (some ⟨b, 0, none⟩), .pointer (some ⟨bl, 0, none⟩)] w fun e w' => e = .returned (.tuple #[.agg (hdCells (contNext l i).1).toArray, .bool (contNext l i).2]) ∧ Turn (fun k => k = b) w w' ∧ ∃ k : Nat, w'.heap[b]? = some (.cells #[.int .i64 (k : Int)] 3 (0, 0)) ∧ ((contNext l i).2 = true → k = i + 1) := by
  unfold contNext
  by_cases hi : i < l.length
  · rw [if_pos hi]
    exact (cont_Get_2.at_ b bl A c i l w hb hl hC hby hi hlm _ _ rfl).mono (by
      rintro e w' ⟨rfl, hT, hk⟩
      exact ⟨rfl, hT, i + 1, hk, fun _ => rfl⟩)
  · rw [if_neg hi]
    exact (cont_Get_2.out b bl A l.length c i w hb hl (by omega)).mono (by
      rintro e w' ⟨rfl, hB⟩
      exact ⟨rfl, Turn.of_below hB, i, blk_below hb hB, fun h => by cases h⟩)
/-- What holds all along the walk of Get. -/
structure ContAt (w : World) (A : Option Addr) (n c : Nat) (k : Nat) (W : World) : Prop where
  box : W.heap[w.heap.size]? = some (.cells #[.slice A n c] 24 (0, 0))
  res : W.heap[w.heap.size + 1]? = some (.cells node0 23 (0, 0))
  at_ : W.heap[w.heap.size + 1 + 1]? = some (.cells #[.int .i64 (k : Int)] 3 (0, 0))
  below : Below w.heap.size w W
theorem ContAt.step {w : World} {A : Option Addr} {n c : Nat} {k : Nat} {W W' : World} (G : ContAt w A n c k W) (b : Below W.heap.size W W') : ContAt w A n c k W' :=
  ⟨blk_below G.box b, blk_below G.res b, blk_below G.at_ b, below_step G.below b⟩
theorem ContAt.next {w : World} {A : Option Addr} {n c : Nat} {k k' : Nat} {W W' : World} (G : ContAt w A n c k W) (t : Turn (fun k => k = w.heap.size + 1 + 1) W W') (h : W'.heap[w.heap.size + 1 + 1]? = some (.cells #[.int .i64 (k' : Int)] 3 (0, 0))) : ContAt w A n c k' W' :=
  ⟨(t.block _ (blk_lt G.box) (by omega)).trans G.box, (t.block _ (blk_lt G.res) (by omega)).trans G.res, h, G.below.trans (t.below (fun k hk => by omega) G.below.size)⟩
theorem ContAt.far {w : World} {A : Option Addr} {n c : Nat} {k : Nat} {W W' : World} (G : ContAt w A n c k W) (b : Below (w.heap.size + 1 + 1 + 1) W W') : ContAt w A n c k W' :=
  ⟨(b.block _ (by omega)).trans G.box, (b.block _ (by omega)).trans G.res, (b.block _ (by omega)).trans G.at_, G.below.trans ⟨b.os, b.tape, b.output, b.size, fun k hk => b.block k (by omega)⟩⟩
theorem bytesTake {w : World} {A : Option Addr} {l : List Int} (c : Nat) (h : Kd.C (Kd.int .u8) w A l.length l) (hc : l.length ≤ c) (m : Nat) (hm : m ≤ l.length) :
    (∀ W, (Instr.slice 41 (.slice A l.length c) none (some (.int .i64 (m : Int))) none).run Try.prog W = .ok (.slice A m c) W) ∧ Kd.C (Kd.int .u8) w A m (l.take m) := by
  obtain ⟨i0, hi0, _, hsz, _⟩ := info_parts info5
  have hcut := cut_to (P := Try.prog) 41 5 .i64 Try.underlying41 hi0 A l.length c (m : Int) (by omega) (by omega) hc
  have hC := Kd.C_take h hm
  have hl : (l.take m).length = m := by rw [List.length_take]; omega
  simp only [Int.toNat_natCast] at hcut
  rw [hl] at hC
  exact ⟨hcut, hC⟩
theorem rowsTake {w : World} {A : Option Addr} {l : List (List Int)} (c : Nat) (h : Kd.C kRow w A l.length l) (hc : l.length ≤ c) (m : Nat) (hm : m ≤ l.length) :
    (∀ W, (Instr.slice 24 (.slice A l.length c) none (some (.int .i64 (m : Int))) none).run Try.prog W = .ok (.slice A m c) W) ∧ Kd.C kRow w A m (l.take m) := by
  obtain ⟨i0, hi0, _, hsz, _⟩ := info_parts info41
  have hcut := cut_to (P := Try.prog) 24 41 .i64 Try.underlying24 hi0 A l.length c (m : Int) (by omega) (by omega) hc
  have hC := Kd.C_take h hm
  have hl : (l.take m).length = m := by rw [List.length_take]; omega
  simp only [Int.toNat_natCast] at hcut
  rw [hl] at hC
  exact ⟨hcut, hC⟩
theorem trimZ_size {s : ByteArray} {n : Nat} (h : s.size ≤ n) : (trimZ s).size ≤ n := by
  unfold trimZ
  split
  · rw [ByteArray.size_extract]; omega
  · exact h
/-- The way out of Get. -/
def noGetE : Ending := .returned (.tuple #[.agg #[.string noGet.1.f0, .string noGet.1.f1, .int .u8 noGet.1.f2, .int .i64 noGet.1.f3, .int .i64 noGet.1.f4, .int .i64 noGet.1.f5, .int .i64 noGet.1.f6, .string noGet.1.f7], .int .i64 noGet.2.1, .int .i64 noGet.2.2.1, .int .i64 noGet.2.2.2.1, .bool noGet.2.2.2.2])
set_option maxRecDepth 100000 in
set_option maxHeartbeats 3200000 in
theorem cont_Get.at_ (A : Option Addr) (c : Nat) (l : List (List Int)) (w : World) (hC : Kd.C kRow w A l.length l) (hcc : l.length ≤ c) (hby : ∀ x ∈ l, ∀ y ∈ x, 0 ≤ y ∧ y ≤ 255) (hlm : l.length ≤ 1000000) :
    Calls Try.prog 15 #[.slice A l.length c] w fun e w' => e = .returned (.tuple #[.agg #[.string (contGet l).1.f0, .string (contGet l).1.f1, .int .u8 (contGet l).1.f2, .int .i64 (contGet l).1.f3, .int .i64 (contGet l).1.f4, .int .i64 (contGet l).1.f5, .int .i64 (contGet l).1.f6, .string (contGet l).1.f7], .int .i64 (contGet l).2.1, .int .i64 (contGet l).2.2.1, .int .i64 (contGet l).2.2.2.1, .bool (contGet l).2.2.2.2]) ∧ Below w.heap.size w w' := by
  have hno := fun W => cont_Get_1.at_ W
  have HG : Aside0 (contGet l = if (contNext l 0).2 = true ∧ (contNext l 0).1.f8 = 76 then (if 1 < l.length ∧ (rdR l 1).length = 512 ∧ 2 ≤ (contNext l 0).1.f6 ∧ (contNext l 0).1.f6 ≤ 301 then contEnd l 3 (contLong l (contNext l 0).1) (contNext l 2) else noGet) else contEnd l 1 ⟨#[]⟩ (contNext l 0)) := ⟨rfl⟩
  generalize contGet l = res at HG ⊢
  have hn0 := fun W (G : ContAt w A l.length c 0 W) => cont_Get_2.all (w.heap.size + 1 + 1) w.heap.size A c 0 l W G.at_ G.box (Kd.C_below hC G.below) hby hlm
  have hn2 := fun W (G : ContAt w A l.length c 2 W) => cont_Get_2.all (w.heap.size + 1 + 1) w.heap.size A c 2 l W G.at_ G.box (Kd.C_below hC G.below) hby hlm
  have hok0 : (contNext l 0).2 = true → hdOk (contNext l 0).1 = true := contNext_ok
  have hok2 : (contNext l 2).2 = true → hdOk (contNext l 2).1 = true := contNext_ok
  have hl2 : (contNext l 2).2 = true → 2 < l.length := contNext_lt
  have hl0 : (contNext l 0).2 = true → 0 < l.length := contNext_lt
  generalize contNext l 0 = r0 at *
  generalize contNext l 2 = r2 at *
  obtain ⟨h0, is0⟩ := r0
  simp only at hn0 hn2 hok0 hok2 hl2 hl0
  go_enter Try.func15, Try.ntmps15
  go_upto_region 5 with (fail)
  obtain ⟨W5, hW5⟩ : ∃ W5, (((w.alloc (.cells #[.slice A l.length c] 24)).alloc (.cells #[.string { data := #[] }, .string { data := #[] }, .int .u8 0, .int .i64 0, .int .i64 0, .int .i64 0, .int .i64 0, .string { data := #[] }] 23)).alloc (.cells #[.int .i64 0] 3)) = W5 := ⟨_, rfl⟩
  have G5 : ContAt w A l.length c 0 W5 := by
    rw [← hW5]
    have e1 := heap_alloc_new w (.cells #[.slice A l.length c] 24)
    have e2 := heap_alloc_new (w.alloc (.cells #[.slice A l.length c] 24)) (.cells #[.string { data := #[] }, .string { data := #[] }, .int .u8 0, .int .i64 0, .int .i64 0, .int .i64 0, .int .i64 0, .string { data := #[] }] 23)
    have e3 := heap_alloc_new ((w.alloc (.cells #[.slice A l.length c] 24)).alloc (.cells #[.string { data := #[] }, .string { data := #[] }, .int .u8 0, .int .i64 0, .int .i64 0, .int .i64 0, .int .i64 0, .string { data := #[] }] 23)) (.cells #[.int .i64 0] 3)
    rw [World.size_alloc] at e2
    rw [World.size_alloc, World.size_alloc] at e3
    exact ⟨blk_alloc (blk_alloc e1 _) _, blk_alloc e2 _, e3, below_alloc (below_alloc (below_alloc (Below.refl w.heap.size w) _) _) _⟩
  rw [hW5]
  clear hW5
  have hcall := hn0 _ G5
  have G5A := Aside0.mk G5
  obtain ⟨f0, f1, f2, f3, f4, f5, f6, f7, f8, f9, f10⟩ := h0
  simp only [hdCells] at hcall
  clear hn0 G5
  go_wp2_with (fail)
  refine hcall.mono ?_
  rintro e w6 ⟨rfl, ht6, k6, hk6, hkt6⟩
  have G6 := G5A.out.next ht6 hk6
  have HD6 := heap_alloc_new w6 (.cells #[.string f0, .string f1, .string f2, .int .i64 f3, .int .i64 f4, .int .i64 f5, .int .i64 f6, .int .i64 f7, .int .u8 f8, .int .i64 f9, .int .i64 f10] 37)
  have G7 := G6.step (below_alloc (Below.refl w6.heap.size w6) (.cells #[.string f0, .string f1, .string f2, .int .i64 f3, .int .i64 f4, .int .i64 f5, .int .i64 f6, .int .i64 f7, .int .u8 f8, .int .i64 f9, .int .i64 f10] 37))
  have hgf : w.heap.size + 3 ≤ w6.heap.size := by have := blk_lt G6.at_; omega
  clear hcall ht6 hk6 G5A G6
  go_upto_region 6 with (fail)
  obtain ⟨W7, hW7⟩ : ∃ W7, w6.alloc (.cells #[.string f0, .string f1, .string f2, .int .i64 f3, .int .i64 f4, .int .i64 f5, .int .i64 f6, .int .i64 f7, .int .u8 f8, .int .i64 f9, .int .i64 f10] 37) = W7 := ⟨_, rfl⟩
  rw [hW7] at HD6 G7 ⊢
  clear hW7
  generalize w6.heap.size = g at *
  obtain ⟨z0, z1, z2, z3, z4, z5, z6, z7, z8, z9, z10⟩ := cells11 HD6
  have HD7 := Aside0.mk HD6
  have G7A := Aside0.mk G7
  clear HD6 G7
  go_cut [26] (fun v26 wc => v26 = .bool (is0 && (f8 == 76)) ∧ wc = W7)
  case first =>
    cases is0 with
    | false =>
      go_wp2_with (fail)
      go_meet
      case rel => exact ⟨rfl, rfl⟩
    | true =>
      go_wp2_with (fail)
      go_meet
      case rel => exact ⟨by simp, rfl⟩
  case rest =>
  obtain ⟨rfl, rfl⟩ := hcut
  go_upto_if 26 with (fail)
  go_cut [8, 12] (fun v8 v12 wc => ∃ (nm : ByteArray) (is : Bool) (k K : Nat) (h : Hd), v8 = .string nm ∧ v12 = .bool is ∧ Aside0 (ContAt w A l.length c k wc) ∧ Aside0 (wc.heap[g]? = some (.cells (hdCells h).toArray 37 (0, 0))) ∧ Aside0 (nm.size ≤ 9223372036854775807 ∧ res = contEnd l K nm (h, is) ∧ (is = true → k = K ∧ hdOk h = true ∧ 1 ≤ K ∧ K ≤ l.length)))
  case first =>
    by_cases hlong : is0 = true ∧ f8 = 76
    · obtain ⟨rfl, rfl⟩ := hlong
      have hk1 : k6 = 1 := hkt6 rfl
      subst hk1
      have HG2 := Aside0.mk (HG.out.trans (if_pos ⟨rfl, rfl⟩))
      have b1 := (blk_cell G7A.out.box 0).trans (show _ = some (Value.slice A l.length c) from rfl)
      have b2 := (blk_cell G7A.out.at_ 0).trans (show _ = some (Value.int .i64 1) from rfl)
      simp only [beq_self_eq_true, Bool.and_self]
      by_cases c1 : 1 < l.length
      · have e1 : decide ((l.length : Int) ≤ 1) = false := decide_eq_false (by omega)
        have e1n : decide (l.length ≤ 1) = false := decide_eq_false (by omega)
        obtain ⟨ad, B1, d1, rfl, hx1, hd1, hC1⟩ := at_row (Kd.C_below hC G7A.out.below) 1 c1
        have hx1' : wc.cell? ⟨ad.block, ad.off + 1, none⟩ = some (Value.slice B1 (rdR l 1).length d1) := hx1
        have hcl : contLong l ⟨f0, f1, f2, f3, f4, f5, f6, f7, 76, f9, f10⟩ = trimZ (strOfNums ((rdR l 1).take f6.toNat)) := rfl
        have q0 : (0 : Int) ≤ 1 := by decide
        have q1 : (1 : Int) < (l.length : Int) := by omega
        by_cases c2 : (rdR l 1).length = 512
        · have e2 : (((rdR l 1).length : Int) == 512) = true := beq_iff_eq.2 (by omega)
          have e2b : (((rdR l 1).length : Int) != 512) = false := by simp only [bne, e2]; rfl
          by_cases c3 : 2 ≤ f6
          · have e3 : decide (f6 < 2) = false := decide_eq_false (by omega)
            by_cases c4 : f6 ≤ 301
            · have e4 : decide (301 < f6) = false := decide_eq_false (by omega)
              obtain ⟨m, rfl⟩ : ∃ m : Nat, f6 = (m : Int) := ⟨f6.toNat, by omega⟩
              have HG3 := Aside0.mk (HG2.out.trans (if_pos ⟨c1, c2, c3, c4⟩))
              rw [hcl, Int.toNat_natCast] at HG3
              obtain ⟨hs1, hs2⟩ := bytesTake d1 hC1 hd1 m (by omega)
              have hcv := fun n => Kd.C_string (P := Try.prog) (A := B1) (c := d1) Try.underlying41 Try.underlying5 Try.underlying9 (Kd.C_drewN hs2 n)
              have hsz : (strOfNums ((rdR l 1).take m)).size ≤ 9223372036854775807 := by
                have : (strOfNums ((rdR l 1).take m)).size = ((rdR l 1).take m).length := by
                  show (((rdR l 1).take m).map _).toArray.size = _
                  simp
                rw [this, List.length_take]; omega
              generalize strOfNums ((rdR l 1).take m) = sx at *
              have htr := fun n => (TrimSuffix_z.at_ sx hsz (wc.drewN n)).mono (fun e w' (h : e = _ ∧ _ = w') => (⟨h.1, n, h.2.symm⟩ : e = _ ∧ ∃ m, w' = wc.drewN m))
              have hm0 : (0 : Int) ≤ (m : Int) := by omega
              go_upto_region 9 with (fail)
              go_quiet ((go_at_call 38; exact htr _))
              have G9 := G7A.out.step (pw_below_drewN (Below.refl wc.heap.size wc) nq)
              have HD9 := blk_drewN HD7.out nq
              obtain ⟨W9, hW9⟩ : ∃ W9, wc.drewN nq = W9 := ⟨_, rfl⟩
              rw [hW9] at G9 HD9 ⊢
              clear hW9 hx1 hx1' b1 b2 htr hcv hs1 hs2 hC1 hd1 z0 z1 z2 z3 z4 z5 z6 z7 z8 z9 z10
              have b2 := (blk_cell G9.at_ 0).trans (show _ = some (Value.int .i64 1) from rfl)
              have b3 := blk_frozen G9.at_ 0
              have G9A := Aside0.mk G9
              have HD9A := Aside0.mk HD9
              clear G9 HD9
              go_upto_region 11 with (fail)
              have G10 := G9A.out.next (Turn.setCell W9 (p := ⟨w.heap.size + 1 + 1, 0, none⟩) (.int .i64 2) rfl) (k' := 2) (by simpa using blk_set G9A.out.at_ 0 (.int .i64 2))
              have HD10 := blk_far HD9A.out (p := ⟨w.heap.size + 1 + 1, 0, none⟩) (by show g ≠ w.heap.size + 1 + 1; omega) (.int .i64 2)
              obtain ⟨W10, hW10⟩ : ∃ W10, W9.setCell ⟨w.heap.size + 1 + 1, 0, none⟩ (.int .i64 2) = W10 := ⟨_, rfl⟩
              rw [hW10] at G10 HD10 ⊢
              clear hW10 b2 b3 G9A HD9A
              have hcall := hn2 _ G10
              obtain ⟨⟨g0, g1, g2, g3, g4, g5, g6, g7, g8, g9, g10⟩, is2⟩ := r2
              simp only [hdCells] at hcall
              have G10A := Aside0.mk G10
              have HD10A := Aside0.mk HD10
              clear G10 HD10 hn2
              go_wp2_with (fail)
              refine hcall.mono ?_
              rintro e w11 ⟨rfl, ht, k11, hk11, hkt11⟩
              have G11 := G10A.out.next ht hk11
              have HD11 := (ht.block _ (blk_lt HD10A.out) (by omega)).trans HD10A.out
              have y0 := blk_frozen HD11 0
              have y1 := blk_frozen HD11 1
              have y2 := blk_frozen HD11 2
              have y3 := blk_frozen HD11 3
              have y4 := blk_frozen HD11 4
              have y5 := blk_frozen HD11 5
              have y6 := blk_frozen HD11 6
              have y7 := blk_frozen HD11 7
              have y8 := blk_frozen HD11 8
              have y9 := blk_frozen HD11 9
              have y10 := blk_frozen HD11 10
              obtain ⟨x0, x1, x2, x3, x4, x5, x6, x7, x8, x9, x10⟩ := cells11 HD11
              have G11A := Aside0.mk G11
              have HD11A := Aside0.mk HD11
              clear hcall ht hk11 G10A HD10A G11 HD11
              go_wp2_with (fail)
              go_meet
              case rel => exact ⟨_, is2, k11, 3, ⟨g0, g1, g2, g3, g4, g5, g6, g7, g8, g9, g10⟩, rfl, rfl, ⟨G11A.out.far (below_hd (Below.refl _ _) (by omega) _ _ _ _ _ _ _ _ _ _ _)⟩, ⟨store_hd HD11A.out rfl _ _ _ _ _ _ _ _ _ _ _⟩, ⟨trimZ_size hsz, HG3.out, fun h => ⟨hkt11 h, hok2 h, by decide, hl2 h⟩⟩⟩
            · have e4 : decide (301 < f6) = true := decide_eq_true (by omega)
              have HGn := Aside0.mk (HG2.out.trans (if_neg (fun e => c4 e.2.2.2)))
              go_wp2_with (first | (go_at_call 36; refine (hno _).mono ?_; rintro e w9 ⟨rfl, hb9⟩; have G9 := Aside0.mk (G7A.out.step hb9); have hr9 := G9.out.res; unfold node0 at hr9; have y0 := blk_frozen hr9 0; have y1 := blk_frozen hr9 1; have y2 := blk_frozen hr9 2; have y3 := blk_frozen hr9 3; have y4 := blk_frozen hr9 4; have y5 := blk_frozen hr9 5; have y6 := blk_frozen hr9 6; have y7 := blk_frozen hr9 7; obtain ⟨x0, x1, x2, x3, x4, x5, x6, x7⟩ := cells8 hr9; simp only [node0]; clear hb9 hr9))
              refine bodyPost_ret (results_list (rs := [.cell 2 23, .tmp 3, .tmp 4, .tmp 5, .tmp 6]) rfl (by simp) (.cell (w.heap.size + 1) 23 node0 (0, 0) _ rfl (store_nd G9.out.res rfl _ _ _ _ _ _ _ _) Try.underlying23 rfl nd_size (.tmp (.tmp (.tmp (.tmp .nil)))))) rfl ?_
              exact ⟨by rw [HGn.out]; rfl, below_nd G9.out.below (by omega) _ _ _ _ _ _ _ _⟩
          · have e3 : decide (f6 < 2) = true := decide_eq_true (by omega)
            have HGn := Aside0.mk (HG2.out.trans (if_neg (fun e => c3 e.2.2.1)))
            go_wp2_with (first | (go_at_call 36; refine (hno _).mono ?_; rintro e w9 ⟨rfl, hb9⟩; have G9 := Aside0.mk (G7A.out.step hb9); have hr9 := G9.out.res; unfold node0 at hr9; have y0 := blk_frozen hr9 0; have y1 := blk_frozen hr9 1; have y2 := blk_frozen hr9 2; have y3 := blk_frozen hr9 3; have y4 := blk_frozen hr9 4; have y5 := blk_frozen hr9 5; have y6 := blk_frozen hr9 6; have y7 := blk_frozen hr9 7; obtain ⟨x0, x1, x2, x3, x4, x5, x6, x7⟩ := cells8 hr9; simp only [node0]; clear hb9 hr9))
            refine bodyPost_ret (results_list (rs := [.cell 2 23, .tmp 3, .tmp 4, .tmp 5, .tmp 6]) rfl (by simp) (.cell (w.heap.size + 1) 23 node0 (0, 0) _ rfl (store_nd G9.out.res rfl _ _ _ _ _ _ _ _) Try.underlying23 rfl nd_size (.tmp (.tmp (.tmp (.tmp .nil)))))) rfl ?_
            exact ⟨by rw [HGn.out]; rfl, below_nd G9.out.below (by omega) _ _ _ _ _ _ _ _⟩
        · have e2 : (((rdR l 1).length : Int) == 512) = false := beq_eq_false_iff_ne.2 (by omega)
          have e2b : (((rdR l 1).length : Int) != 512) = true := by simp only [bne, e2]; rfl
          have HGn := Aside0.mk (HG2.out.trans (if_neg (fun e => c2 e.2.1)))
          go_wp2_with (first | (go_at_call 36; refine (hno _).mono ?_; rintro e w9 ⟨rfl, hb9⟩; have G9 := Aside0.mk (G7A.out.step hb9); have hr9 := G9.out.res; unfold node0 at hr9; have y0 := blk_frozen hr9 0; have y1 := blk_frozen hr9 1; have y2 := blk_frozen hr9 2; have y3 := blk_frozen hr9 3; have y4 := blk_frozen hr9 4; have y5 := blk_frozen hr9 5; have y6 := blk_frozen hr9 6; have y7 := blk_frozen hr9 7; obtain ⟨x0, x1, x2, x3, x4, x5, x6, x7⟩ := cells8 hr9; simp only [node0]; clear hb9 hr9))
          refine bodyPost_ret (results_list (rs := [.cell 2 23, .tmp 3, .tmp 4, .tmp 5, .tmp 6]) rfl (by simp) (.cell (w.heap.size + 1) 23 node0 (0, 0) _ rfl (store_nd G9.out.res rfl _ _ _ _ _ _ _ _) Try.underlying23 rfl nd_size (.tmp (.tmp (.tmp (.tmp .nil)))))) rfl ?_
          exact ⟨by rw [HGn.out]; rfl, below_nd G9.out.below (by omega) _ _ _ _ _ _ _ _⟩
      · have e1 : decide ((l.length : Int) ≤ 1) = true := decide_eq_true (by omega)
        have e1n : decide (l.length ≤ 1) = true := decide_eq_true (by omega)
        have HGn := Aside0.mk (HG2.out.trans (if_neg (fun e => c1 e.1)))
        go_wp2_with (first | (go_at_call 36; refine (hno _).mono ?_; rintro e w9 ⟨rfl, hb9⟩; have G9 := Aside0.mk (G7A.out.step hb9); have hr9 := G9.out.res; unfold node0 at hr9; have y0 := blk_frozen hr9 0; have y1 := blk_frozen hr9 1; have y2 := blk_frozen hr9 2; have y3 := blk_frozen hr9 3; have y4 := blk_frozen hr9 4; have y5 := blk_frozen hr9 5; have y6 := blk_frozen hr9 6; have y7 := blk_frozen hr9 7; obtain ⟨x0, x1, x2, x3, x4, x5, x6, x7⟩ := cells8 hr9; simp only [node0]; clear hb9 hr9))
        refine bodyPost_ret (results_list (rs := [.cell 2 23, .tmp 3, .tmp 4, .tmp 5, .tmp 6]) rfl (by simp) (.cell (w.heap.size + 1) 23 node0 (0, 0) _ rfl (store_nd G9.out.res rfl _ _ _ _ _ _ _ _) Try.underlying23 rfl nd_size (.tmp (.tmp (.tmp (.tmp .nil)))))) rfl ?_
        exact ⟨by rw [HGn.out]; rfl, below_nd G9.out.below (by omega) _ _ _ _ _ _ _ _⟩
    · have hb : (is0 && (f8 == 76)) = false := by
        cases is0 with
        | false => rfl
        | true => simpa using fun e => hlong ⟨rfl, e⟩
      rw [hb]
      go_wp2_with (fail)
      go_meet
      case rel => exact ⟨_, is0, k6, 1, ⟨f0, f1, f2, f3, f4, f5, f6, f7, f8, f9, f10⟩, rfl, rfl, G7A, HD7, ⟨by decide, by rw [HG.out, if_neg hlong], fun h => ⟨hkt6 h, hok0 h, Nat.le_refl _, hl0 h⟩⟩⟩
  case rest =>
  obtain ⟨nm, is, k, K, ⟨p0, p1, p2, p3, p4, p5, p6, p7, p8, p9, p10⟩, rfl, rfl, GA, HDA, ⟨hnm, hres, hfacts⟩⟩ := hcut
  clear HG hn2 hok2 hl2 hl0 hok0 hkt6 G7A HD7
  have HRES := Aside0.mk hres
  clear hres
  obtain ⟨z0, z1, z2, z3, z4, z5, z6, z7, z8, z9, z10⟩ := cells11 HDA.out
  by_cases hM : is = true ∧ p8 = 77
  · obtain ⟨rfl, rfl⟩ := hM
    have HG4 := Aside0.mk (HRES.out.trans (if_pos ⟨rfl, rfl⟩))
    obtain ⟨rfl, hok, hK1, hKl⟩ := hfacts rfl
    go_upto_if 87 with (fail)
    go_cut [8] (fun v8 wc' => v8 = .string (contName nm ⟨p0, p1, p2, p3, p4, p5, p6, p7, 77, p9, p10⟩) ∧ wc' = wc)
    case first =>
      by_cases hne : nm.size = 0
      · have e1 : nm.toList = ([] : List UInt8) := (nil_size' nm).2 hne
        have e2 : (nm.toList == ([] : List UInt8)) = true := beq_iff_eq.2 e1
        have e3 : nm.toList.isEmpty = true := List.isEmpty_iff.2 e1
        rw [e3]
        clear e1 e2 e3
        go_wp2_with (fail)
        go_meet
        case rel => exact ⟨by rw [contName, if_pos hne], rfl⟩
      · have e2 : (nm.toList == ([] : List UInt8)) = false := by rw [nil_size]; exact decide_eq_false hne
        have e1 : ¬ nm.toList = ([] : List UInt8) := fun e => hne ((nil_size' nm).1 e)
        have e3 : nm.toList.isEmpty = false := by rw [← Bool.not_eq_true, List.isEmpty_iff]; exact e1
        rw [e3]
        clear e1 e2 e3
        go_wp2_with (fail)
        go_meet
        case rel => exact ⟨by rw [contName, if_neg hne], rfl⟩
    case rest =>
    obtain ⟨rfl, rfl⟩ := hcut
    have hnz : (contName nm ⟨p0, p1, p2, p3, p4, p5, p6, p7, 77, p9, p10⟩).size ≤ 9223372036854775807 := by
      unfold contName
      split
      · have h_ := (hdOk_fit hok).1.1
        simp only at h_
        show p0.size ≤ _
        omega
      · exact hnm
    have hoff : 0 ≤ p9 := (putN_forms ((hdOk_fit hok).2.2 rfl).1).1
    simp only at HG4
    generalize contName nm ⟨p0, p1, p2, p3, p4, p5, p6, p7, 77, p9, p10⟩ = nn at *
    clear hfacts HRES hnm
    go_upto_region 17 with (fail)
    have G7 := GA.out.step (below_alloc (Below.refl wc.heap.size wc) (.cells #[.string nn, .string { data := #[] }, .int .u8 48, .int .i64 p3, .int .i64 p4, .int .i64 p5, .int .i64 p7, .string { data := #[] }] 23))
    have HDa := blk_alloc HDA.out (.cells #[.string nn, .string { data := #[] }, .int .u8 48, .int .i64 p3, .int .i64 p4, .int .i64 p5, .int .i64 p7, .string { data := #[] }] 23)
    have NDa := heap_alloc_new wc (.cells #[.string nn, .string { data := #[] }, .int .u8 48, .int .i64 p3, .int .i64 p4, .int .i64 p5, .int .i64 p7, .string { data := #[] }] 23)
    obtain ⟨W17, hW17⟩ : ∃ W17, wc.alloc (.cells #[.string nn, .string { data := #[] }, .int .u8 48, .int .i64 p3, .int .i64 p4, .int .i64 p5, .int .i64 p7, .string { data := #[] }] 23) = W17 := ⟨_, rfl⟩
    rw [hW17] at G7 HDa NDa ⊢
    have hnb : w.heap.size + 1 + 1 < wc.heap.size := blk_lt GA.out.at_
    clear hW17 GA HDA z0 z1 z2 z3 z4 z5 z6 z7 z8 z9 z10
    generalize wc.heap.size = nb at *
    have G7 := Aside0.mk G7
    have HDa := Aside0.mk HDa
    have NDa := Aside0.mk NDa
    have hpm := fun W => path_May.calls nn _ W (may_f hnz)
    go_cut [14] (fun v14 wd => v14 = .bool (contFits nn ⟨p0, p1, p2, p3, p4, p5, p6, p7, 77, p9, p10⟩) ∧ Aside0 (ContAt w A l.length c k wd) ∧ Aside0 (wd.heap[g]? = some (.cells #[.string p0, .string p1, .string p2, .int .i64 p3, .int .i64 p4, .int .i64 p5, .int .i64 p6, .int .i64 p7, .int .u8 77, .int .i64 p9, .int .i64 p10] 37 (0, 0))) ∧ Aside0 (wd.heap[nb]? = some (.cells #[.string nn, .string { data := #[] }, .int .u8 48, .int .i64 p3, .int .i64 p4, .int .i64 p5, .int .i64 p7, .string { data := #[] }] 23 (0, 0))))
    case first =>
      obtain ⟨h0a, h1a, h2a, h3a, h4a, h5a, h6a, h7a, h8a, h9a, h10a⟩ := cells11 HDa.out; obtain ⟨n0a, n1a, n2a, n3a, n4a, n5a, n6a, n7a⟩ := cells8 NDa.out
      cases hb1 : mayL nn.data.toList with
      | false =>
        rw [hb1] at hpm
        have HF : Aside0 (contFits nn ⟨p0, p1, p2, p3, p4, p5, p6, p7, 77, p9, p10⟩ = false) := ⟨by rw [contFits]; simp [hb1]⟩
        go_wp2_with (first | (go_at_call 39; refine (hpm _).mono ?_; rintro e w18 ⟨rfl, hb⟩; have GB := Aside0.mk (G7.out.step hb); have HDb := Aside0.mk (blk_below HDa.out hb); have NDb := Aside0.mk (blk_below NDa.out hb); obtain ⟨h0b, h1b, h2b, h3b, h4b, h5b, h6b, h7b, h8b, h9b, h10b⟩ := cells11 HDb.out; obtain ⟨n0b, n1b, n2b, n3b, n4b, n5b, n6b, n7b⟩ := cells8 NDb.out; clear hb h0a h1a h2a h3a h4a h5a h6a h7a h8a h9a h10a n0a n1a n2a n3a n4a n5a n6a n7a))
        go_meet
        case rel => exact ⟨by rw [HF.out], GB, HDb, NDb⟩
      | true =>
        have hfs := mayL_pos hb1
        rw [hb1] at hpm
        have hfi := fun W => cont_file.calls nn ⟨#[]⟩ 48 p3 p4 p5 p7 ⟨#[]⟩ _ W (file_f (n := ⟨nn, ⟨#[]⟩, 48, p3, p4, p5, p7, ⟨#[]⟩⟩) (by show nn.size ≤ _; omega) (by show (0 : Nat) ≤ _; decide))
        have hfb : fileB ⟨nn, ⟨#[]⟩, 48, p3, p4, p5, p7, ⟨#[]⟩⟩ = oneB (contNd nn ⟨p0, p1, p2, p3, p4, p5, p6, p7, 77, p9, p10⟩) := by unfold fileB; rfl
        rw [hfb] at hfi
        clear hfb hfs
        cases hb2 : oneB (contNd nn ⟨p0, p1, p2, p3, p4, p5, p6, p7, 77, p9, p10⟩) with
        | false =>
          rw [hb2] at hfi
          have HF : Aside0 (contFits nn ⟨p0, p1, p2, p3, p4, p5, p6, p7, 77, p9, p10⟩ = false) := ⟨by rw [contFits]; simp [hb1, hb2]⟩
          go_wp2_with (first | (go_at_call 39; refine (hpm _).mono ?_; rintro e w18 ⟨rfl, hb⟩; have GB := Aside0.mk (G7.out.step hb); have HDb := Aside0.mk (blk_below HDa.out hb); have NDb := Aside0.mk (blk_below NDa.out hb); obtain ⟨h0b, h1b, h2b, h3b, h4b, h5b, h6b, h7b, h8b, h9b, h10b⟩ := cells11 HDb.out; obtain ⟨n0b, n1b, n2b, n3b, n4b, n5b, n6b, n7b⟩ := cells8 NDb.out; clear hb h0a h1a h2a h3a h4a h5a h6a h7a h8a h9a h10a n0a n1a n2a n3a n4a n5a n6a n7a) | (go_at_call 40; refine (hfi _).mono ?_; rintro e w19 ⟨rfl, hb⟩; have GC := Aside0.mk (GB.out.step hb); have HDc := Aside0.mk (blk_below HDb.out hb); have NDc := Aside0.mk (blk_below NDb.out hb); obtain ⟨h0c, h1c, h2c, h3c, h4c, h5c, h6c, h7c, h8c, h9c, h10c⟩ := cells11 HDc.out; obtain ⟨n0c, n1c, n2c, n3c, n4c, n5c, n6c, n7c⟩ := cells8 NDc.out; clear hb h0b h1b h2b h3b h4b h5b h6b h7b h8b h9b h10b n0b n1b n2b n3b n4b n5b n6b n7b))
          go_meet
          case rel => exact ⟨by rw [HF.out], GC, HDc, NDc⟩
        | true =>
          rw [hb2] at hfi
          by_cases c3 : p10 ≤ 4000
          · have c3b := decide_eq_true c3
            by_cases c4 : p9 < p10
            · have c4b := decide_eq_true c4
              have c5e : Int.tmod p9 512 = p9 % 512 := Int.tmod_eq_emod_of_nonneg hoff
              by_cases c5 : p9 % 512 = 0
              · have c5b : (p9 % 512 == 0) = true := beq_iff_eq.2 c5
                have c5c := decide_eq_true c5
                have HF : Aside0 (contFits nn ⟨p0, p1, p2, p3, p4, p5, p6, p7, 77, p9, p10⟩ = true) := ⟨by rw [contFits]; simp [hb1, hb2, c3, c4, c5]⟩
                go_wp2_with (first | (go_at_call 39; refine (hpm _).mono ?_; rintro e w18 ⟨rfl, hb⟩; have GB := Aside0.mk (G7.out.step hb); have HDb := Aside0.mk (blk_below HDa.out hb); have NDb := Aside0.mk (blk_below NDa.out hb); obtain ⟨h0b, h1b, h2b, h3b, h4b, h5b, h6b, h7b, h8b, h9b, h10b⟩ := cells11 HDb.out; obtain ⟨n0b, n1b, n2b, n3b, n4b, n5b, n6b, n7b⟩ := cells8 NDb.out; clear hb h0a h1a h2a h3a h4a h5a h6a h7a h8a h9a h10a n0a n1a n2a n3a n4a n5a n6a n7a) | (go_at_call 40; refine (hfi _).mono ?_; rintro e w19 ⟨rfl, hb⟩; have GC := Aside0.mk (GB.out.step hb); have HDc := Aside0.mk (blk_below HDb.out hb); have NDc := Aside0.mk (blk_below NDb.out hb); obtain ⟨h0c, h1c, h2c, h3c, h4c, h5c, h6c, h7c, h8c, h9c, h10c⟩ := cells11 HDc.out; obtain ⟨n0c, n1c, n2c, n3c, n4c, n5c, n6c, n7c⟩ := cells8 NDc.out; clear hb h0b h1b h2b h3b h4b h5b h6b h7b h8b h9b h10b n0b n1b n2b n3b n4b n5b n6b n7b))
                go_meet
                case rel => exact ⟨by rw [HF.out], GC, HDc, NDc⟩
              · have c5b : (p9 % 512 == 0) = false := beq_eq_false_iff_ne.2 c5
                have c5c := decide_eq_false c5
                have HF : Aside0 (contFits nn ⟨p0, p1, p2, p3, p4, p5, p6, p7, 77, p9, p10⟩ = false) := ⟨by rw [contFits]; simp [hb1, hb2, c3, c4, c5]⟩
                go_wp2_with (first | (go_at_call 39; refine (hpm _).mono ?_; rintro e w18 ⟨rfl, hb⟩; have GB := Aside0.mk (G7.out.step hb); have HDb := Aside0.mk (blk_below HDa.out hb); have NDb := Aside0.mk (blk_below NDa.out hb); obtain ⟨h0b, h1b, h2b, h3b, h4b, h5b, h6b, h7b, h8b, h9b, h10b⟩ := cells11 HDb.out; obtain ⟨n0b, n1b, n2b, n3b, n4b, n5b, n6b, n7b⟩ := cells8 NDb.out; clear hb h0a h1a h2a h3a h4a h5a h6a h7a h8a h9a h10a n0a n1a n2a n3a n4a n5a n6a n7a) | (go_at_call 40; refine (hfi _).mono ?_; rintro e w19 ⟨rfl, hb⟩; have GC := Aside0.mk (GB.out.step hb); have HDc := Aside0.mk (blk_below HDb.out hb); have NDc := Aside0.mk (blk_below NDb.out hb); obtain ⟨h0c, h1c, h2c, h3c, h4c, h5c, h6c, h7c, h8c, h9c, h10c⟩ := cells11 HDc.out; obtain ⟨n0c, n1c, n2c, n3c, n4c, n5c, n6c, n7c⟩ := cells8 NDc.out; clear hb h0b h1b h2b h3b h4b h5b h6b h7b h8b h9b h10b n0b n1b n2b n3b n4b n5b n6b n7b))
                go_meet
                case rel => exact ⟨by rw [HF.out], GC, HDc, NDc⟩
            · have c4b := decide_eq_false c4
              have HF : Aside0 (contFits nn ⟨p0, p1, p2, p3, p4, p5, p6, p7, 77, p9, p10⟩ = false) := ⟨by rw [contFits]; simp [hb1, hb2, c3, c4]⟩
              go_wp2_with (first | (go_at_call 39; refine (hpm _).mono ?_; rintro e w18 ⟨rfl, hb⟩; have GB := Aside0.mk (G7.out.step hb); have HDb := Aside0.mk (blk_below HDa.out hb); have NDb := Aside0.mk (blk_below NDa.out hb); obtain ⟨h0b, h1b, h2b, h3b, h4b, h5b, h6b, h7b, h8b, h9b, h10b⟩ := cells11 HDb.out; obtain ⟨n0b, n1b, n2b, n3b, n4b, n5b, n6b, n7b⟩ := cells8 NDb.out; clear hb h0a h1a h2a h3a h4a h5a h6a h7a h8a h9a h10a n0a n1a n2a n3a n4a n5a n6a n7a) | (go_at_call 40; refine (hfi _).mono ?_; rintro e w19 ⟨rfl, hb⟩; have GC := Aside0.mk (GB.out.step hb); have HDc := Aside0.mk (blk_below HDb.out hb); have NDc := Aside0.mk (blk_below NDb.out hb); obtain ⟨h0c, h1c, h2c, h3c, h4c, h5c, h6c, h7c, h8c, h9c, h10c⟩ := cells11 HDc.out; obtain ⟨n0c, n1c, n2c, n3c, n4c, n5c, n6c, n7c⟩ := cells8 NDc.out; clear hb h0b h1b h2b h3b h4b h5b h6b h7b h8b h9b h10b n0b n1b n2b n3b n4b n5b n6b n7b))
              go_meet
              case rel => exact ⟨by rw [HF.out], GC, HDc, NDc⟩
          · have c3b := decide_eq_false c3
            have HF : Aside0 (contFits nn ⟨p0, p1, p2, p3, p4, p5, p6, p7, 77, p9, p10⟩ = false) := ⟨by rw [contFits]; simp [hb1, hb2, c3]⟩
            go_wp2_with (first | (go_at_call 39; refine (hpm _).mono ?_; rintro e w18 ⟨rfl, hb⟩; have GB := Aside0.mk (G7.out.step hb); have HDb := Aside0.mk (blk_below HDa.out hb); have NDb := Aside0.mk (blk_below NDa.out hb); obtain ⟨h0b, h1b, h2b, h3b, h4b, h5b, h6b, h7b, h8b, h9b, h10b⟩ := cells11 HDb.out; obtain ⟨n0b, n1b, n2b, n3b, n4b, n5b, n6b, n7b⟩ := cells8 NDb.out; clear hb h0a h1a h2a h3a h4a h5a h6a h7a h8a h9a h10a n0a n1a n2a n3a n4a n5a n6a n7a) | (go_at_call 40; refine (hfi _).mono ?_; rintro e w19 ⟨rfl, hb⟩; have GC := Aside0.mk (GB.out.step hb); have HDc := Aside0.mk (blk_below HDb.out hb); have NDc := Aside0.mk (blk_below NDb.out hb); obtain ⟨h0c, h1c, h2c, h3c, h4c, h5c, h6c, h7c, h8c, h9c, h10c⟩ := cells11 HDc.out; obtain ⟨n0c, n1c, n2c, n3c, n4c, n5c, n6c, n7c⟩ := cells8 NDc.out; clear hb h0b h1b h2b h3b h4b h5b h6b h7b h8b h9b h10b n0b n1b n2b n3b n4b n5b n6b n7b))
            go_meet
            case rel => exact ⟨by rw [HF.out], GC, HDc, NDc⟩
    case rest =>
    obtain ⟨rfl, GD, HDd, NDd⟩ := hcut
    cases hf : contFits nn ⟨p0, p1, p2, p3, p4, p5, p6, p7, 77, p9, p10⟩ with
    | false =>
      have HGn := Aside0.mk (HG4.out.trans (if_neg (fun e => by rw [hf] at e; cases e.1)))
      clear HG4 hpm
      go_upto_region 18 with (fail)
      go_quiet (fail)
      have GD9 := GD.out.step (pw_below_drewN (Below.refl wc.heap.size wc) nq)
      go_wp2_with (first | (go_at_call 36; refine (hno _).mono ?_; rintro e w9 ⟨rfl, hb9⟩; have G9 := Aside0.mk (GD9.step hb9); have hr9 := G9.out.res; unfold node0 at hr9; have y0 := blk_frozen hr9 0; have y1 := blk_frozen hr9 1; have y2 := blk_frozen hr9 2; have y3 := blk_frozen hr9 3; have y4 := blk_frozen hr9 4; have y5 := blk_frozen hr9 5; have y6 := blk_frozen hr9 6; have y7 := blk_frozen hr9 7; obtain ⟨x0, x1, x2, x3, x4, x5, x6, x7⟩ := cells8 hr9; simp only [node0]; clear hb9 hr9))
      refine bodyPost_ret (results_list (rs := [.cell 2 23, .tmp 3, .tmp 4, .tmp 5, .tmp 6]) rfl (by simp) (.cell (w.heap.size + 1) 23 node0 (0, 0) _ rfl (store_nd G9.out.res rfl _ _ _ _ _ _ _ _) Try.underlying23 rfl nd_size (.tmp (.tmp (.tmp (.tmp .nil)))))) rfl ?_
      exact ⟨by rw [HGn.out]; rfl, below_nd G9.out.below (by omega) _ _ _ _ _ _ _ _⟩
    | true =>
      have hf2 := hf
      unfold contFits at hf2
      simp only [Bool.and_eq_true, decide_eq_true_eq] at hf2
      obtain ⟨_, g1, g2, g3, _⟩ := hf2
      have hput : ∀ W, Calls Try.prog 33 #[.agg #[.string nn, .string { data := #[] }, .int .u8 48, .int .i64 p3, .int .i64 p4, .int .i64 p5, .int .i64 p7, .string { data := #[] }], .int .i64 p9, .int .i64 p10] W fun e w' => ∃ v : Value, e = .returned v ∧ Kd.R kRow 41 w' W.heap.size (fun _ => True) v (contB (contNd nn ⟨p0, p1, p2, p3, p4, p5, p6, p7, 77, p9, p10⟩) p9 p10) ∧ Below W.heap.size W w' := fun W => cont_put.one (n := contNd nn ⟨p0, p1, p2, p3, p4, p5, p6, p7, 77, p9, p10⟩) (oneB_facts g1) hoff (by omega) g2 W
      obtain ⟨hs1, hCT⟩ := rowsTake c hC hcc k hKl
      have HTK := Aside0.mk hCT
      have hTl : (l.take k).length = k := by rw [List.length_take]; omega
      have HG5 : Aside0 (contB (contNd nn ⟨p0, p1, p2, p3, p4, p5, p6, p7, 77, p9, p10⟩) p9 p10 = l.take k → res = (contNd nn ⟨p0, p1, p2, p3, p4, p5, p6, p7, 77, p9, p10⟩, p9, p10, (k : Int), true)) := ⟨fun e => HG4.out.trans (if_pos ⟨hf, e⟩)⟩
      have HG6 : Aside0 (contB (contNd nn ⟨p0, p1, p2, p3, p4, p5, p6, p7, 77, p9, p10⟩) p9 p10 ≠ l.take k → res = noGet) := ⟨fun e => HG4.out.trans (if_neg (fun h => e h.2))⟩
      generalize contB (contNd nn ⟨p0, p1, p2, p3, p4, p5, p6, p7, 77, p9, p10⟩) p9 p10 = B at *
      generalize l.take k = T at *
      have hsame : ∀ (A1 : Option Addr) (c1 : Nat) (W : World), Kd.C kRow W A1 B.length B → Kd.C kRow W A k T → Calls Try.prog 41 #[.slice A1 B.length c1, .slice A k c] W fun e w' => e = .returned (.bool (decide (B = T))) ∧ Drawn0 W w' := fun A1 c1 W h1 h2 => by
        have h_ := block_Same.at_ A1 c1 B A c T W h1 (by rw [hTl]; exact h2)
        rw [hTl] at h_
        exact h_
      have hk0 : (0 : Int) ≤ (k : Int) := by omega
      clear HG4 hpm hf g1 g2 g3 hCT hby hTl
      by_cases hBT : B = T
      · have HGy := Aside0.mk (HG5.out hBT)
        rw [decide_eq_true hBT] at hsame
        clear HG5 HG6
        go_upto_region 18 with (fail)
        refine start_ (n := 15) (S := fun w' => w'.cell? ⟨nb, 0, none⟩ = some (Value.string nn) ∧ w'.cell? ⟨nb, 1, none⟩ = some (Value.string { data := #[] }) ∧ w'.cell? ⟨nb, 2, none⟩ = some (Value.int .u8 48) ∧ w'.cell? ⟨nb, 3, none⟩ = some (Value.int .i64 p3) ∧ w'.cell? ⟨nb, 4, none⟩ = some (Value.int .i64 p4) ∧ w'.cell? ⟨nb, 5, none⟩ = some (Value.int .i64 p5) ∧ w'.cell? ⟨nb, 6, none⟩ = some (Value.int .i64 p7) ∧ w'.cell? ⟨nb, 7, none⟩ = some (Value.string { data := #[] }) ∧ w'.cell? ⟨g, 9, none⟩ = some (Value.int .i64 p9) ∧ w'.cell? ⟨g, 10, none⟩ = some (Value.int .i64 p10) ∧ w'.cell? ⟨w.heap.size, 0, none⟩ = some (Value.slice A l.length c) ∧ w'.cell? ⟨w.heap.size + 1 + 1, 0, none⟩ = some (Value.int .i64 (k : Int))) (ds := []) #[false, false, false, false, false, false, false, false, false, false, false, false, false, false, false] (by kernel_rfl) rfl rfl ⟨(blk_cell (blk_drew NDd.out) 0).trans rfl, (blk_cell (blk_drew NDd.out) 1).trans rfl, (blk_cell (blk_drew NDd.out) 2).trans rfl, (blk_cell (blk_drew NDd.out) 3).trans rfl, (blk_cell (blk_drew NDd.out) 4).trans rfl, (blk_cell (blk_drew NDd.out) 5).trans rfl, (blk_cell (blk_drew NDd.out) 6).trans rfl, (blk_cell (blk_drew NDd.out) 7).trans rfl, (blk_cell (blk_drew HDd.out) 9).trans rfl, (blk_cell (blk_drew HDd.out) 10).trans rfl, (blk_cell (GD.out.step (below_drew1 (Below.refl wc.heap.size wc))).box 0).trans rfl, (blk_cell (GD.out.step (below_drew1 (Below.refl wc.heap.size wc))).at_ 0).trans rfl⟩ (fun hHeld => ?_)
        refine pure_ (i := 0) (N := some 124) (v := ?_) (a' := ?_) #[true, false, false, false, false, false, false, false, false, false, false, false, false, false, false] rfl rfl (by kernel_rfl) (fun _ _ _ h => h) (Or.inl ⟨by rfl, ?_⟩) ?_ ?_
        rotate_left
        · intro w'
          go_simp
          with_reducible rfl
        rotate_left
        · simp only [Act.put, List.setIfInBounds_toArray, List.set_cons_zero, List.set_cons_succ, i64_w, i32_w]
          rfl
        refine pure_ (i := 1) (N := some 125) (v := ?_) (a' := ?_) #[true, true, false, false, false, false, false, false, false, false, false, false, false, false, false] rfl rfl (by kernel_rfl) (fun _ _ _ h => h) (Or.inl ⟨by rfl, ?_⟩) ?_ ?_
        rotate_left
        · intro w'
          go_simp
          with_reducible rfl
        rotate_left
        · simp only [Act.put, List.setIfInBounds_toArray, List.set_cons_zero, List.set_cons_succ, i64_w, i32_w]
          rfl
        refine pure_ (i := 2) (N := some 126) (v := ?_) (a' := ?_) #[true, true, true, false, false, false, false, false, false, false, false, false, false, false, false] rfl rfl (by kernel_rfl) (fun _ _ _ h => h) (Or.inl ⟨by rfl, ?_⟩) ?_ ?_
        rotate_left
        · intro w'
          go_simp
          with_reducible rfl
        rotate_left
        · simp only [Act.put, List.setIfInBounds_toArray, List.set_cons_zero, List.set_cons_succ, i64_w, i32_w]
          rfl
        refine take_ (i := 3) (N := some 127) (v := ?_) (a' := ?_) #[true, true, true, true, false, false, false, false, false, false, false, false, false, false, false] rfl rfl (by kernel_rfl) (fun _ _ _ h => h) (Or.inl ⟨by rfl, ?_⟩) hHeld ?_ ?_
        rotate_left
        · rintro w' ⟨s0, s1, s2, s3, s4, s5, s6, s7, s8, s9, s10, s11⟩
          go_simp
          with_reducible rfl
        rotate_left
        · simp only [Act.put, List.setIfInBounds_toArray, List.set_cons_zero, List.set_cons_succ, i64_w, i32_w]
          rfl
        refine pure_ (i := 4) (N := some 128) (v := ?_) (a' := ?_) #[true, true, true, true, true, false, false, false, false, false, false, false, false, false, false] rfl rfl (by kernel_rfl) (fun _ _ _ h => h) (Or.inl ⟨by rfl, ?_⟩) ?_ ?_
        rotate_left
        · intro w'
          go_simp
          with_reducible rfl
        rotate_left
        · simp only [Act.put, List.setIfInBounds_toArray, List.set_cons_zero, List.set_cons_succ, i64_w, i32_w]
          rfl
        refine take_ (i := 5) (N := some 129) (v := ?_) (a' := ?_) #[true, true, true, true, true, true, false, false, false, false, false, false, false, false, false] rfl rfl (by kernel_rfl) (fun _ _ _ h => h) (Or.inl ⟨by rfl, ?_⟩) hHeld ?_ ?_
        rotate_left
        · rintro w' ⟨s0, s1, s2, s3, s4, s5, s6, s7, s8, s9, s10, s11⟩
          go_simp
          with_reducible rfl
        rotate_left
        · simp only [Act.put, List.setIfInBounds_toArray, List.set_cons_zero, List.set_cons_succ, i64_w, i32_w]
          rfl
        refine pure_ (i := 6) (N := some 130) (v := ?_) (a' := ?_) #[true, true, true, true, true, true, true, false, false, false, false, false, false, false, false] rfl rfl (by kernel_rfl) (fun _ _ _ h => h) (Or.inl ⟨by rfl, ?_⟩) ?_ ?_
        rotate_left
        · intro w'
          go_simp
          with_reducible rfl
        rotate_left
        · simp only [Act.put, List.setIfInBounds_toArray, List.set_cons_zero, List.set_cons_succ, i64_w, i32_w]
          rfl
        refine take_ (i := 7) (N := some 131) (v := ?_) (a' := ?_) #[true, true, true, true, true, true, true, true, false, false, false, false, false, false, false] rfl rfl (by kernel_rfl) (fun _ _ _ h => h) (Or.inl ⟨by rfl, ?_⟩) hHeld ?_ ?_
        rotate_left
        · rintro w' ⟨s0, s1, s2, s3, s4, s5, s6, s7, s8, s9, s10, s11⟩
          go_simp
          with_reducible rfl
        rotate_left
        · simp only [Act.put, List.setIfInBounds_toArray, List.set_cons_zero, List.set_cons_succ, i64_w, i32_w]
          rfl
        refine take_ (i := 9) (N := some 133) (v := ?_) (a' := ?_) #[true, true, true, true, true, true, true, true, false, true, false, false, false, false, false] rfl rfl (by kernel_rfl) (fun _ _ _ h => h) (Or.inl ⟨by rfl, ?_⟩) hHeld ?_ ?_
        rotate_left
        · rintro w' ⟨s0, s1, s2, s3, s4, s5, s6, s7, s8, s9, s10, s11⟩
          go_simp
          with_reducible rfl
        rotate_left
        · simp only [Act.put, List.setIfInBounds_toArray, List.set_cons_zero, List.set_cons_succ, i64_w, i32_w]
          rfl
        refine take_ (i := 10) (N := some 134) (v := ?_) (a' := ?_) #[true, true, true, true, true, true, true, true, false, true, true, false, false, false, false] rfl rfl (by kernel_rfl) (fun _ _ _ h => h) (Or.inl ⟨by rfl, ?_⟩) hHeld ?_ ?_
        rotate_left
        · rintro w' ⟨s0, s1, s2, s3, s4, s5, s6, s7, s8, s9, s10, s11⟩
          go_simp
          with_reducible rfl
        rotate_left
        · simp only [Act.put, List.setIfInBounds_toArray, List.set_cons_zero, List.set_cons_succ, i64_w, i32_w]
          rfl
        refine pure_ (i := 11) (N := some 135) (v := ?_) (a' := ?_) #[true, true, true, true, true, true, true, true, false, true, true, true, false, false, false] rfl rfl (by kernel_rfl) (fun _ _ _ h => h) (Or.inl ⟨by rfl, ?_⟩) ?_ ?_
        rotate_left
        · intro w'
          go_simp
          with_reducible rfl
        rotate_left
        · simp only [Act.put, List.setIfInBounds_toArray, List.set_cons_zero, List.set_cons_succ, i64_w, i32_w]
          rfl
        refine one_ (i := 8) (N := some 132) #[true, true, true, true, true, true, true, true, true, true, true, true, false, false, false] rfl rfl (by kernel_rfl) (by decide) (fun K hK => ?_)
        refine goes_ Try.func33 (by kernel_rfl) rfl #[.agg #[.string nn, .string { data := #[] }, .int .u8 48, .int .i64 p3, .int .i64 p4, .int .i64 p5, .int .i64 p7, .string { data := #[] }], .int .i64 p9, .int .i64 p10] (by rfl) rfl rfl (by (try simp only [List.map_toArray, List.map_cons, List.map_nil]); first | done | rfl | (simp only [List.length_drop, List.length_take]; rfl)) ?_
        refine (hput _).mono ?_
        rintro e w20 ⟨vb, rfl, hRb, hb⟩
        have hbq := (below_then (below_drew1 (Below.refl wc.heap.size wc)) (Nat.le_refl _) hb)
        have GE := Aside0.mk (GD.out.step hbq)
        have HDe := Aside0.mk (blk_below HDd.out hbq)
        have NDe := Aside0.mk (blk_below NDd.out hbq)
        obtain ⟨A1, c1, rfl, hc1, hC1⟩ := Kd.R_reads hRb
        have HC1 := Aside0.mk hC1
        clear hRb hb hbq hC1
        refine ⟨_, rfl, ?_⟩
        refine hK.out _ _ ⟨(blk_cell NDe.out 0).trans rfl, (blk_cell NDe.out 1).trans rfl, (blk_cell NDe.out 2).trans rfl, (blk_cell NDe.out 3).trans rfl, (blk_cell NDe.out 4).trans rfl, (blk_cell NDe.out 5).trans rfl, (blk_cell NDe.out 6).trans rfl, (blk_cell NDe.out 7).trans rfl, (blk_cell HDe.out 9).trans rfl, (blk_cell HDe.out 10).trans rfl, (blk_cell (GE.out).box 0).trans rfl, (blk_cell (GE.out).at_ 0).trans rfl⟩ (fun hHeld => ?_)
        clear hK K
        refine norm_ (a' := ?_) ?_ ?_
        rotate_left
        · show Act.put _ (some 132) _ = _
          simp only [Act.put, List.setIfInBounds_toArray, List.set_cons_zero, List.set_cons_succ, i64_w, i32_w]
          rfl
        refine one_ (i := 12) (N := some 136) #[true, true, true, true, true, true, true, true, true, true, true, true, true, false, false] rfl rfl (by kernel_rfl) (by decide) (fun K hK => ?_)
        refine goes_ Try.func41 (by kernel_rfl) rfl #[.slice A1 B.length c1, .slice A k c] (by rfl) rfl rfl (by (try simp only [List.map_toArray, List.map_cons, List.map_nil]); first | done | rfl | (simp only [List.length_drop, List.length_take]; rfl)) ?_
        refine (hsame A1 c1 _ HC1.out (Kd.C_below HTK.out GE.out.below)).mono ?_
        rintro e w21 ⟨rfl, ⟨nd21, rfl⟩⟩
        have GF := Aside0.mk (GE.out.step (pw_below_drewN (Below.refl w20.heap.size w20) nd21))
        have HDf := Aside0.mk (blk_drewN HDe.out nd21)
        have NDf := Aside0.mk (blk_drewN NDe.out nd21)
        refine ⟨_, rfl, ?_⟩
        refine hK.out _ _ ⟨(blk_cell NDf.out 0).trans rfl, (blk_cell NDf.out 1).trans rfl, (blk_cell NDf.out 2).trans rfl, (blk_cell NDf.out 3).trans rfl, (blk_cell NDf.out 4).trans rfl, (blk_cell NDf.out 5).trans rfl, (blk_cell NDf.out 6).trans rfl, (blk_cell NDf.out 7).trans rfl, (blk_cell HDf.out 9).trans rfl, (blk_cell HDf.out 10).trans rfl, (blk_cell (GF.out).box 0).trans rfl, (blk_cell (GF.out).at_ 0).trans rfl⟩ (fun hHeld => ?_)
        clear hK K
        refine norm_ (a' := ?_) ?_ ?_
        rotate_left
        · show Act.put _ (some 136) _ = _
          simp only [Act.put, List.setIfInBounds_toArray, List.set_cons_zero, List.set_cons_succ, i64_w, i32_w]
          rfl
        refine pure_ (i := 13) (N := some 137) (v := ?_) (a' := ?_) #[true, true, true, true, true, true, true, true, true, true, true, true, true, true, false] rfl rfl (by kernel_rfl) (fun _ _ _ h => h) (Or.inl ⟨by rfl, ?_⟩) ?_ ?_
        rotate_left
        · intro w'
          go_simp
          with_reducible rfl
        rotate_left
        · simp only [Act.put, List.setIfInBounds_toArray, List.set_cons_zero, List.set_cons_succ, i64_w, i32_w]
          rfl
        refine pure_ (i := 14) (N := some 138) (v := ?_) (a' := ?_) #[true, true, true, true, true, true, true, true, true, true, true, true, true, true, true] rfl rfl (by kernel_rfl) (fun _ _ _ h => h) (Or.inl ⟨by rfl, ?_⟩) ?_ ?_
        rotate_left
        · intro w'
          go_simp
          with_reducible rfl
        rotate_left
        · simp only [Act.put, List.setIfInBounds_toArray, List.set_cons_zero, List.set_cons_succ, i64_w, i32_w]
          rfl
        refine done_ (by kernel_rfl) ?_
        go_upto_region 20 with (fail)
        have GG := GF
        have HDg := HDf
        have NDg := NDf
        obtain ⟨w22, hw22⟩ : ∃ w22, w20.drewN nd21 = w22 := ⟨_, rfl⟩
        rw [hw22] at GG HDg NDg ⊢
        clear hw22 GF HDf NDf
        have hr := GG.out.res
        unfold node0 at hr
        have y0 := blk_frozen hr 0
        have y1 := blk_frozen hr 1
        have y2 := blk_frozen hr 2
        have y3 := blk_frozen hr 3
        have y4 := blk_frozen hr 4
        have y5 := blk_frozen hr 5
        have y6 := blk_frozen hr 6
        have y7 := blk_frozen hr 7
        obtain ⟨x0, x1, x2, x3, x4, x5, x6, x7⟩ := cells8 hr
        refine start_ (n := 11) (S := fun w' => w'.cell? ⟨nb, 0, none⟩ = some (Value.string nn) ∧ w'.cell? ⟨nb, 1, none⟩ = some (Value.string { data := #[] }) ∧ w'.cell? ⟨nb, 2, none⟩ = some (Value.int .u8 48) ∧ w'.cell? ⟨nb, 3, none⟩ = some (Value.int .i64 p3) ∧ w'.cell? ⟨nb, 4, none⟩ = some (Value.int .i64 p4) ∧ w'.cell? ⟨nb, 5, none⟩ = some (Value.int .i64 p5) ∧ w'.cell? ⟨nb, 6, none⟩ = some (Value.int .i64 p7) ∧ w'.cell? ⟨nb, 7, none⟩ = some (Value.string { data := #[] }) ∧ w'.cell? ⟨g, 9, none⟩ = some (Value.int .i64 p9) ∧ w'.cell? ⟨g, 10, none⟩ = some (Value.int .i64 p10) ∧ w'.cell? ⟨w.heap.size + 1 + 1, 0, none⟩ = some (Value.int .i64 (k : Int))) (ds := []) #[false, false, false, false, false, false, false, false, false, false, false] (by kernel_rfl) rfl rfl ⟨(blk_cell (blk_drew NDg.out) 0).trans rfl, (blk_cell (blk_drew NDg.out) 1).trans rfl, (blk_cell (blk_drew NDg.out) 2).trans rfl, (blk_cell (blk_drew NDg.out) 3).trans rfl, (blk_cell (blk_drew NDg.out) 4).trans rfl, (blk_cell (blk_drew NDg.out) 5).trans rfl, (blk_cell (blk_drew NDg.out) 6).trans rfl, (blk_cell (blk_drew NDg.out) 7).trans rfl, (blk_cell (blk_drew HDg.out) 9).trans rfl, (blk_cell (blk_drew HDg.out) 10).trans rfl, (blk_cell (GG.out.step (below_drew1 (Below.refl w22.heap.size w22))).at_ 0).trans rfl⟩ (fun hHeld => ?_)
        refine take_ (i := 0) (N := some 146) (v := ?_) (a' := ?_) #[true, false, false, false, false, false, false, false, false, false, false] rfl rfl (by kernel_rfl) (fun _ _ _ h => h) (Or.inl ⟨by rfl, ?_⟩) hHeld ?_ ?_
        rotate_left
        · rintro w' ⟨s0, s1, s2, s3, s4, s5, s6, s7, s8, s9, s10⟩
          go_simp
          with_reducible rfl
        rotate_left
        · simp only [Act.put, List.setIfInBounds_toArray, List.set_cons_zero, List.set_cons_succ, i64_w, i32_w]
          rfl
        refine pure_ (i := 1) (N := some 147) (v := ?_) (a' := ?_) #[true, true, false, false, false, false, false, false, false, false, false] rfl rfl (by kernel_rfl) (fun _ _ _ h => h) (Or.inl ⟨by rfl, ?_⟩) ?_ ?_
        rotate_left
        · intro w'
          go_simp
          with_reducible rfl
        rotate_left
        · simp only [Act.put, List.setIfInBounds_toArray, List.set_cons_zero, List.set_cons_succ, i64_w, i32_w]
          rfl
        refine take_ (i := 2) (N := some 148) (v := ?_) (a' := ?_) #[true, true, true, false, false, false, false, false, false, false, false] rfl rfl (by kernel_rfl) (fun _ _ _ h => h) (Or.inl ⟨by rfl, ?_⟩) hHeld ?_ ?_
        rotate_left
        · rintro w' ⟨s0, s1, s2, s3, s4, s5, s6, s7, s8, s9, s10⟩
          go_simp
          with_reducible rfl
        rotate_left
        · simp only [Act.put, List.setIfInBounds_toArray, List.set_cons_zero, List.set_cons_succ, i64_w, i32_w]
          rfl
        refine pure_ (i := 3) (N := some 149) (v := ?_) (a' := ?_) #[true, true, true, true, false, false, false, false, false, false, false] rfl rfl (by kernel_rfl) (fun _ _ _ h => h) (Or.inl ⟨by rfl, ?_⟩) ?_ ?_
        rotate_left
        · intro w'
          go_simp
          with_reducible rfl
        rotate_left
        · simp only [Act.put, List.setIfInBounds_toArray, List.set_cons_zero, List.set_cons_succ, i64_w, i32_w]
          rfl
        refine take_ (i := 4) (N := some 150) (v := ?_) (a' := ?_) #[true, true, true, true, true, false, false, false, false, false, false] rfl rfl (by kernel_rfl) (fun _ _ _ h => h) (Or.inl ⟨by rfl, ?_⟩) hHeld ?_ ?_
        rotate_left
        · rintro w' ⟨s0, s1, s2, s3, s4, s5, s6, s7, s8, s9, s10⟩
          go_simp
          with_reducible rfl
        rotate_left
        · simp only [Act.put, List.setIfInBounds_toArray, List.set_cons_zero, List.set_cons_succ, i64_w, i32_w]
          rfl
        refine take_ (i := 5) (N := some 151) (v := ?_) (a' := ?_) #[true, true, true, true, true, true, false, false, false, false, false] rfl rfl (by kernel_rfl) (fun _ _ _ h => h) (Or.inl ⟨by rfl, ?_⟩) hHeld ?_ ?_
        rotate_left
        · rintro w' ⟨s0, s1, s2, s3, s4, s5, s6, s7, s8, s9, s10⟩
          go_simp
          with_reducible rfl
        rotate_left
        · simp only [Act.put, List.setIfInBounds_toArray, List.set_cons_zero, List.set_cons_succ, i64_w, i32_w]
          rfl
        refine one_ (i := 6) (N := none) #[true, true, true, true, true, true, true, false, false, false, false] rfl rfl (by kernel_rfl) (by decide) (fun K hK => ?_)
        rw [if_pos (by rfl)]
        have FN := blk_drew (far_nd NDg.out (show nb ≠ w.heap.size + 1 by omega) (.string nn) (.string ⟨#[]⟩) (.int .u8 48) (.int .i64 p3) (.int .i64 p4) (.int .i64 p5) (.int .i64 p7) (.string ⟨#[]⟩))
        have FH := blk_drew (far_nd HDg.out (show g ≠ w.heap.size + 1 by omega) (.string nn) (.string ⟨#[]⟩) (.int .u8 48) (.int .i64 p3) (.int .i64 p4) (.int .i64 p5) (.int .i64 p7) (.string ⟨#[]⟩))
        have FA := blk_drew (far_nd GG.out.at_ (show w.heap.size + 1 + 1 ≠ w.heap.size + 1 by omega) (.string nn) (.string ⟨#[]⟩) (.int .u8 48) (.int .i64 p3) (.int .i64 p4) (.int .i64 p5) (.int .i64 p7) (.string ⟨#[]⟩))
        go_simp
        refine hK.out _ _ ⟨(blk_cell FN 0).trans rfl, (blk_cell FN 1).trans rfl, (blk_cell FN 2).trans rfl, (blk_cell FN 3).trans rfl, (blk_cell FN 4).trans rfl, (blk_cell FN 5).trans rfl, (blk_cell FN 6).trans rfl, (blk_cell FN 7).trans rfl, (blk_cell FH 9).trans rfl, (blk_cell FH 10).trans rfl, (blk_cell FA 0).trans rfl⟩ (fun hHeld => ?_)
        clear hK K
        refine pure_ (i := 7) (N := some 3) (v := ?_) (a' := ?_) #[true, true, true, true, true, true, true, true, false, false, false] rfl rfl (by kernel_rfl) (fun _ _ _ h => h) (Or.inl ⟨by rfl, ?_⟩) ?_ ?_
        rotate_left
        · intro w'
          go_simp
          with_reducible rfl
        rotate_left
        · simp only [Act.put, List.setIfInBounds_toArray, List.set_cons_zero, List.set_cons_succ, i64_w, i32_w]
          rfl
        refine pure_ (i := 8) (N := some 4) (v := ?_) (a' := ?_) #[true, true, true, true, true, true, true, true, true, false, false] rfl rfl (by kernel_rfl) (fun _ _ _ h => h) (Or.inl ⟨by rfl, ?_⟩) ?_ ?_
        rotate_left
        · intro w'
          go_simp
          with_reducible rfl
        rotate_left
        · simp only [Act.put, List.setIfInBounds_toArray, List.set_cons_zero, List.set_cons_succ, i64_w, i32_w]
          rfl
        refine pure_ (i := 9) (N := some 5) (v := ?_) (a' := ?_) #[true, true, true, true, true, true, true, true, true, true, false] rfl rfl (by kernel_rfl) (fun _ _ _ h => h) (Or.inl ⟨by rfl, ?_⟩) ?_ ?_
        rotate_left
        · intro w'
          go_simp
          with_reducible rfl
        rotate_left
        · simp only [Act.put, List.setIfInBounds_toArray, List.set_cons_zero, List.set_cons_succ, i64_w, i32_w]
          rfl
        refine pure_ (i := 10) (N := some 6) (v := ?_) (a' := ?_) #[true, true, true, true, true, true, true, true, true, true, true] rfl rfl (by kernel_rfl) (fun _ _ _ h => h) (Or.inl ⟨by rfl, ?_⟩) ?_ ?_
        rotate_left
        · intro w'
          go_simp
          with_reducible rfl
        rotate_left
        · simp only [Act.put, List.setIfInBounds_toArray, List.set_cons_zero, List.set_cons_succ, i64_w, i32_w]
          rfl
        refine done_ (by kernel_rfl) ?_
        go_wp2_with (fail)
        refine bodyPost_ret (results_list (rs := [.cell 2 23, .tmp 3, .tmp 4, .tmp 5, .tmp 6]) rfl (by simp) (.cell (w.heap.size + 1) 23 #[.string nn, .string { data := #[] }, .int .u8 48, .int .i64 p3, .int .i64 p4, .int .i64 p5, .int .i64 p7, .string { data := #[] }] (0, 0) _ rfl (blk_drew (store_nd GG.out.res rfl _ _ _ _ _ _ _ _)) Try.underlying23 rfl nd_size (.tmp (.tmp (.tmp (.tmp .nil)))))) rfl ?_
        exact ⟨by rw [HGy.out]; rfl, below_drew1 (below_nd GG.out.below (by omega) _ _ _ _ _ _ _ _)⟩
      · have HGn := Aside0.mk (HG6.out hBT)
        rw [decide_eq_false hBT] at hsame
        clear HG5 HG6
        go_upto_region 18 with (fail)
        refine start_ (n := 15) (S := fun w' => w'.cell? ⟨nb, 0, none⟩ = some (Value.string nn) ∧ w'.cell? ⟨nb, 1, none⟩ = some (Value.string { data := #[] }) ∧ w'.cell? ⟨nb, 2, none⟩ = some (Value.int .u8 48) ∧ w'.cell? ⟨nb, 3, none⟩ = some (Value.int .i64 p3) ∧ w'.cell? ⟨nb, 4, none⟩ = some (Value.int .i64 p4) ∧ w'.cell? ⟨nb, 5, none⟩ = some (Value.int .i64 p5) ∧ w'.cell? ⟨nb, 6, none⟩ = some (Value.int .i64 p7) ∧ w'.cell? ⟨nb, 7, none⟩ = some (Value.string { data := #[] }) ∧ w'.cell? ⟨g, 9, none⟩ = some (Value.int .i64 p9) ∧ w'.cell? ⟨g, 10, none⟩ = some (Value.int .i64 p10) ∧ w'.cell? ⟨w.heap.size, 0, none⟩ = some (Value.slice A l.length c) ∧ w'.cell? ⟨w.heap.size + 1 + 1, 0, none⟩ = some (Value.int .i64 (k : Int))) (ds := []) #[false, false, false, false, false, false, false, false, false, false, false, false, false, false, false] (by kernel_rfl) rfl rfl ⟨(blk_cell (blk_drew NDd.out) 0).trans rfl, (blk_cell (blk_drew NDd.out) 1).trans rfl, (blk_cell (blk_drew NDd.out) 2).trans rfl, (blk_cell (blk_drew NDd.out) 3).trans rfl, (blk_cell (blk_drew NDd.out) 4).trans rfl, (blk_cell (blk_drew NDd.out) 5).trans rfl, (blk_cell (blk_drew NDd.out) 6).trans rfl, (blk_cell (blk_drew NDd.out) 7).trans rfl, (blk_cell (blk_drew HDd.out) 9).trans rfl, (blk_cell (blk_drew HDd.out) 10).trans rfl, (blk_cell (GD.out.step (below_drew1 (Below.refl wc.heap.size wc))).box 0).trans rfl, (blk_cell (GD.out.step (below_drew1 (Below.refl wc.heap.size wc))).at_ 0).trans rfl⟩ (fun hHeld => ?_)
        refine pure_ (i := 0) (N := some 124) (v := ?_) (a' := ?_) #[true, false, false, false, false, false, false, false, false, false, false, false, false, false, false] rfl rfl (by kernel_rfl) (fun _ _ _ h => h) (Or.inl ⟨by rfl, ?_⟩) ?_ ?_
        rotate_left
        · intro w'
          go_simp
          with_reducible rfl
        rotate_left
        · simp only [Act.put, List.setIfInBounds_toArray, List.set_cons_zero, List.set_cons_succ, i64_w, i32_w]
          rfl
        refine pure_ (i := 1) (N := some 125) (v := ?_) (a' := ?_) #[true, true, false, false, false, false, false, false, false, false, false, false, false, false, false] rfl rfl (by kernel_rfl) (fun _ _ _ h => h) (Or.inl ⟨by rfl, ?_⟩) ?_ ?_
        rotate_left
        · intro w'
          go_simp
          with_reducible rfl
        rotate_left
        · simp only [Act.put, List.setIfInBounds_toArray, List.set_cons_zero, List.set_cons_succ, i64_w, i32_w]
          rfl
        refine pure_ (i := 2) (N := some 126) (v := ?_) (a' := ?_) #[true, true, true, false, false, false, false, false, false, false, false, false, false, false, false] rfl rfl (by kernel_rfl) (fun _ _ _ h => h) (Or.inl ⟨by rfl, ?_⟩) ?_ ?_
        rotate_left
        · intro w'
          go_simp
          with_reducible rfl
        rotate_left
        · simp only [Act.put, List.setIfInBounds_toArray, List.set_cons_zero, List.set_cons_succ, i64_w, i32_w]
          rfl
        refine take_ (i := 3) (N := some 127) (v := ?_) (a' := ?_) #[true, true, true, true, false, false, false, false, false, false, false, false, false, false, false] rfl rfl (by kernel_rfl) (fun _ _ _ h => h) (Or.inl ⟨by rfl, ?_⟩) hHeld ?_ ?_
        rotate_left
        · rintro w' ⟨s0, s1, s2, s3, s4, s5, s6, s7, s8, s9, s10, s11⟩
          go_simp
          with_reducible rfl
        rotate_left
        · simp only [Act.put, List.setIfInBounds_toArray, List.set_cons_zero, List.set_cons_succ, i64_w, i32_w]
          rfl
        refine pure_ (i := 4) (N := some 128) (v := ?_) (a' := ?_) #[true, true, true, true, true, false, false, false, false, false, false, false, false, false, false] rfl rfl (by kernel_rfl) (fun _ _ _ h => h) (Or.inl ⟨by rfl, ?_⟩) ?_ ?_
        rotate_left
        · intro w'
          go_simp
          with_reducible rfl
        rotate_left
        · simp only [Act.put, List.setIfInBounds_toArray, List.set_cons_zero, List.set_cons_succ, i64_w, i32_w]
          rfl
        refine take_ (i := 5) (N := some 129) (v := ?_) (a' := ?_) #[true, true, true, true, true, true, false, false, false, false, false, false, false, false, false] rfl rfl (by kernel_rfl) (fun _ _ _ h => h) (Or.inl ⟨by rfl, ?_⟩) hHeld ?_ ?_
        rotate_left
        · rintro w' ⟨s0, s1, s2, s3, s4, s5, s6, s7, s8, s9, s10, s11⟩
          go_simp
          with_reducible rfl
        rotate_left
        · simp only [Act.put, List.setIfInBounds_toArray, List.set_cons_zero, List.set_cons_succ, i64_w, i32_w]
          rfl
        refine pure_ (i := 6) (N := some 130) (v := ?_) (a' := ?_) #[true, true, true, true, true, true, true, false, false, false, false, false, false, false, false] rfl rfl (by kernel_rfl) (fun _ _ _ h => h) (Or.inl ⟨by rfl, ?_⟩) ?_ ?_
        rotate_left
        · intro w'
          go_simp
          with_reducible rfl
        rotate_left
        · simp only [Act.put, List.setIfInBounds_toArray, List.set_cons_zero, List.set_cons_succ, i64_w, i32_w]
          rfl
        refine take_ (i := 7) (N := some 131) (v := ?_) (a' := ?_) #[true, true, true, true, true, true, true, true, false, false, false, false, false, false, false] rfl rfl (by kernel_rfl) (fun _ _ _ h => h) (Or.inl ⟨by rfl, ?_⟩) hHeld ?_ ?_
        rotate_left
        · rintro w' ⟨s0, s1, s2, s3, s4, s5, s6, s7, s8, s9, s10, s11⟩
          go_simp
          with_reducible rfl
        rotate_left
        · simp only [Act.put, List.setIfInBounds_toArray, List.set_cons_zero, List.set_cons_succ, i64_w, i32_w]
          rfl
        refine take_ (i := 9) (N := some 133) (v := ?_) (a' := ?_) #[true, true, true, true, true, true, true, true, false, true, false, false, false, false, false] rfl rfl (by kernel_rfl) (fun _ _ _ h => h) (Or.inl ⟨by rfl, ?_⟩) hHeld ?_ ?_
        rotate_left
        · rintro w' ⟨s0, s1, s2, s3, s4, s5, s6, s7, s8, s9, s10, s11⟩
          go_simp
          with_reducible rfl
        rotate_left
        · simp only [Act.put, List.setIfInBounds_toArray, List.set_cons_zero, List.set_cons_succ, i64_w, i32_w]
          rfl
        refine take_ (i := 10) (N := some 134) (v := ?_) (a' := ?_) #[true, true, true, true, true, true, true, true, false, true, true, false, false, false, false] rfl rfl (by kernel_rfl) (fun _ _ _ h => h) (Or.inl ⟨by rfl, ?_⟩) hHeld ?_ ?_
        rotate_left
        · rintro w' ⟨s0, s1, s2, s3, s4, s5, s6, s7, s8, s9, s10, s11⟩
          go_simp
          with_reducible rfl
        rotate_left
        · simp only [Act.put, List.setIfInBounds_toArray, List.set_cons_zero, List.set_cons_succ, i64_w, i32_w]
          rfl
        refine pure_ (i := 11) (N := some 135) (v := ?_) (a' := ?_) #[true, true, true, true, true, true, true, true, false, true, true, true, false, false, false] rfl rfl (by kernel_rfl) (fun _ _ _ h => h) (Or.inl ⟨by rfl, ?_⟩) ?_ ?_
        rotate_left
        · intro w'
          go_simp
          with_reducible rfl
        rotate_left
        · simp only [Act.put, List.setIfInBounds_toArray, List.set_cons_zero, List.set_cons_succ, i64_w, i32_w]
          rfl
        refine one_ (i := 8) (N := some 132) #[true, true, true, true, true, true, true, true, true, true, true, true, false, false, false] rfl rfl (by kernel_rfl) (by decide) (fun K hK => ?_)
        refine goes_ Try.func33 (by kernel_rfl) rfl #[.agg #[.string nn, .string { data := #[] }, .int .u8 48, .int .i64 p3, .int .i64 p4, .int .i64 p5, .int .i64 p7, .string { data := #[] }], .int .i64 p9, .int .i64 p10] (by rfl) rfl rfl (by (try simp only [List.map_toArray, List.map_cons, List.map_nil]); first | done | rfl | (simp only [List.length_drop, List.length_take]; rfl)) ?_
        refine (hput _).mono ?_
        rintro e w20 ⟨vb, rfl, hRb, hb⟩
        have hbq := (below_then (below_drew1 (Below.refl wc.heap.size wc)) (Nat.le_refl _) hb)
        have GE := Aside0.mk (GD.out.step hbq)
        have HDe := Aside0.mk (blk_below HDd.out hbq)
        have NDe := Aside0.mk (blk_below NDd.out hbq)
        obtain ⟨A1, c1, rfl, hc1, hC1⟩ := Kd.R_reads hRb
        have HC1 := Aside0.mk hC1
        clear hRb hb hbq hC1
        refine ⟨_, rfl, ?_⟩
        refine hK.out _ _ ⟨(blk_cell NDe.out 0).trans rfl, (blk_cell NDe.out 1).trans rfl, (blk_cell NDe.out 2).trans rfl, (blk_cell NDe.out 3).trans rfl, (blk_cell NDe.out 4).trans rfl, (blk_cell NDe.out 5).trans rfl, (blk_cell NDe.out 6).trans rfl, (blk_cell NDe.out 7).trans rfl, (blk_cell HDe.out 9).trans rfl, (blk_cell HDe.out 10).trans rfl, (blk_cell (GE.out).box 0).trans rfl, (blk_cell (GE.out).at_ 0).trans rfl⟩ (fun hHeld => ?_)
        clear hK K
        refine norm_ (a' := ?_) ?_ ?_
        rotate_left
        · show Act.put _ (some 132) _ = _
          simp only [Act.put, List.setIfInBounds_toArray, List.set_cons_zero, List.set_cons_succ, i64_w, i32_w]
          rfl
        refine one_ (i := 12) (N := some 136) #[true, true, true, true, true, true, true, true, true, true, true, true, true, false, false] rfl rfl (by kernel_rfl) (by decide) (fun K hK => ?_)
        refine goes_ Try.func41 (by kernel_rfl) rfl #[.slice A1 B.length c1, .slice A k c] (by rfl) rfl rfl (by (try simp only [List.map_toArray, List.map_cons, List.map_nil]); first | done | rfl | (simp only [List.length_drop, List.length_take]; rfl)) ?_
        refine (hsame A1 c1 _ HC1.out (Kd.C_below HTK.out GE.out.below)).mono ?_
        rintro e w21 ⟨rfl, ⟨nd21, rfl⟩⟩
        have GF := Aside0.mk (GE.out.step (pw_below_drewN (Below.refl w20.heap.size w20) nd21))
        have HDf := Aside0.mk (blk_drewN HDe.out nd21)
        have NDf := Aside0.mk (blk_drewN NDe.out nd21)
        refine ⟨_, rfl, ?_⟩
        refine hK.out _ _ ⟨(blk_cell NDf.out 0).trans rfl, (blk_cell NDf.out 1).trans rfl, (blk_cell NDf.out 2).trans rfl, (blk_cell NDf.out 3).trans rfl, (blk_cell NDf.out 4).trans rfl, (blk_cell NDf.out 5).trans rfl, (blk_cell NDf.out 6).trans rfl, (blk_cell NDf.out 7).trans rfl, (blk_cell HDf.out 9).trans rfl, (blk_cell HDf.out 10).trans rfl, (blk_cell (GF.out).box 0).trans rfl, (blk_cell (GF.out).at_ 0).trans rfl⟩ (fun hHeld => ?_)
        clear hK K
        refine norm_ (a' := ?_) ?_ ?_
        rotate_left
        · show Act.put _ (some 136) _ = _
          simp only [Act.put, List.setIfInBounds_toArray, List.set_cons_zero, List.set_cons_succ, i64_w, i32_w]
          rfl
        refine pure_ (i := 13) (N := some 137) (v := ?_) (a' := ?_) #[true, true, true, true, true, true, true, true, true, true, true, true, true, true, false] rfl rfl (by kernel_rfl) (fun _ _ _ h => h) (Or.inl ⟨by rfl, ?_⟩) ?_ ?_
        rotate_left
        · intro w'
          go_simp
          with_reducible rfl
        rotate_left
        · simp only [Act.put, List.setIfInBounds_toArray, List.set_cons_zero, List.set_cons_succ, i64_w, i32_w]
          rfl
        refine pure_ (i := 14) (N := some 138) (v := ?_) (a' := ?_) #[true, true, true, true, true, true, true, true, true, true, true, true, true, true, true] rfl rfl (by kernel_rfl) (fun _ _ _ h => h) (Or.inl ⟨by rfl, ?_⟩) ?_ ?_
        rotate_left
        · intro w'
          go_simp
          with_reducible rfl
        rotate_left
        · simp only [Act.put, List.setIfInBounds_toArray, List.set_cons_zero, List.set_cons_succ, i64_w, i32_w]
          rfl
        refine done_ (by kernel_rfl) ?_
        go_wp2_with (first | (go_at_call 36; refine (hno _).mono ?_; rintro e w9 ⟨rfl, hb9⟩; have G9 := Aside0.mk (GF.out.step hb9); have hr9 := G9.out.res; unfold node0 at hr9; have y0 := blk_frozen hr9 0; have y1 := blk_frozen hr9 1; have y2 := blk_frozen hr9 2; have y3 := blk_frozen hr9 3; have y4 := blk_frozen hr9 4; have y5 := blk_frozen hr9 5; have y6 := blk_frozen hr9 6; have y7 := blk_frozen hr9 7; obtain ⟨x0, x1, x2, x3, x4, x5, x6, x7⟩ := cells8 hr9; simp only [node0]; clear hb9 hr9))
        refine bodyPost_ret (results_list (rs := [.cell 2 23, .tmp 3, .tmp 4, .tmp 5, .tmp 6]) rfl (by simp) (.cell (w.heap.size + 1) 23 node0 (0, 0) _ rfl (store_nd G9.out.res rfl _ _ _ _ _ _ _ _) Try.underlying23 rfl nd_size (.tmp (.tmp (.tmp (.tmp .nil)))))) rfl ?_
        exact ⟨by rw [HGn.out]; rfl, below_nd G9.out.below (by omega) _ _ _ _ _ _ _ _⟩
  · have HGn := Aside0.mk (HRES.out.trans (if_neg hM))
    cases is with
    | false =>
      go_wp2_with (first | (go_at_call 36; refine (hno _).mono ?_; rintro e w9 ⟨rfl, hb9⟩; have G9 := Aside0.mk (GA.out.step hb9); have hr9 := G9.out.res; unfold node0 at hr9; have y0 := blk_frozen hr9 0; have y1 := blk_frozen hr9 1; have y2 := blk_frozen hr9 2; have y3 := blk_frozen hr9 3; have y4 := blk_frozen hr9 4; have y5 := blk_frozen hr9 5; have y6 := blk_frozen hr9 6; have y7 := blk_frozen hr9 7; obtain ⟨x0, x1, x2, x3, x4, x5, x6, x7⟩ := cells8 hr9; simp only [node0]; clear hb9 hr9))
      refine bodyPost_ret (results_list (rs := [.cell 2 23, .tmp 3, .tmp 4, .tmp 5, .tmp 6]) rfl (by simp) (.cell (w.heap.size + 1) 23 node0 (0, 0) _ rfl (store_nd G9.out.res rfl _ _ _ _ _ _ _ _) Try.underlying23 rfl nd_size (.tmp (.tmp (.tmp (.tmp .nil)))))) rfl ?_
      exact ⟨by rw [HGn.out]; rfl, below_nd G9.out.below (by omega) _ _ _ _ _ _ _ _⟩
    | true =>
      have hm1 : (p8 == 77) = false := beq_eq_false_iff_ne.2 (fun e => hM ⟨rfl, e⟩)
      have hm2 : (p8 != 77) = true := by simp only [bne, hm1]; rfl
      clear hM
      go_wp2_with (first | (go_at_call 36; refine (hno _).mono ?_; rintro e w9 ⟨rfl, hb9⟩; have G9 := Aside0.mk (GA.out.step hb9); have hr9 := G9.out.res; unfold node0 at hr9; have y0 := blk_frozen hr9 0; have y1 := blk_frozen hr9 1; have y2 := blk_frozen hr9 2; have y3 := blk_frozen hr9 3; have y4 := blk_frozen hr9 4; have y5 := blk_frozen hr9 5; have y6 := blk_frozen hr9 6; have y7 := blk_frozen hr9 7; obtain ⟨x0, x1, x2, x3, x4, x5, x6, x7⟩ := cells8 hr9; simp only [node0]; clear hb9 hr9))
      refine bodyPost_ret (results_list (rs := [.cell 2 23, .tmp 3, .tmp 4, .tmp 5, .tmp 6]) rfl (by simp) (.cell (w.heap.size + 1) 23 node0 (0, 0) _ rfl (store_nd G9.out.res rfl _ _ _ _ _ _ _ _) Try.underlying23 rfl nd_size (.tmp (.tmp (.tmp (.tmp .nil)))))) rfl ?_
      exact ⟨by rw [HGn.out]; rfl, below_nd G9.out.below (by omega) _ _ _ _ _ _ _ _⟩

end Go.Proofs.Ytekfgmpldgoglaa.X
