import Derived.Test.YtklbnfpjjcidiaaXK
import Derived.Test.YtklbnfpjjcidiaaXE26
import Derived.Test.YtklbnfpjjcidiaaXGfsa
import Derived.Test.YtklbnfpjjcidiaaXGfsc
import Derived.Test.YtklbnfpjjcidiaaXGfsd
import Derived.Test.YtklbnfpjjcidiaaXGfse
import Derived.Test.YtklbnfpjjcidiaaXGreelkeeperref06
import Derived.Test.YtklbnfpjjcidiaaXGslices
import Derived.Test.YtklbnfpjjcidiaaXGtree
import Derived.Test.YtklbnfpjjcidiaaXreelkeeperlaw06Few
import Derived.Test.YtklbnfpjjcidiaaYAll
import Derived.Test.YtklbnfpjjcidiaaP02p
import Derived.Test.YtklbnfpjjcidiaaP06a
import Derived.Test.YtklbnfpjjcidiaaP06b
import Derived.Test.YtklbnfpjjcidiaaP06d
import Derived.Test.YtklbnfpjjcidiaaPGA
import Derived.Deep.RegionHeld3
import Derived.Laws.EntriesVeiled
import Derived.WalkSpells
namespace Go.Proofs.Ytklbnfpjjcidiaa.X
open Go.RowKit Go.Proofs.YtklbnfpjjcidiaaW.PrintWords Go.Proofs.YtklbnfpjjcidiaaW.PrintLast Go.Proofs.YtklbnfpjjcidiaaW.PrintMore
attribute [local go_sem] max2_int min2_int max_two min_two
set_option linter.unusedVariables false
set_option linter.unusedSimpArgs false

attribute [local go_sem high] eqA26
open Go.Proofs.YtklbnfpjjcidiaaY
set_option maxRecDepth 100000
theorem seen_at {p : List Nd} {s : ByteArray} {k : Int} (hk : k ≠ 0) (h : seen p s = k) : ∃ x ∈ p, x.f0.toList = s.toList ∧ x.f2 = k := by
  unfold seen at h
  cases hf : p.find? (fun x => x.f0.toList == s.toList) with
  | none => rw [hf] at h; exact absurd h.symm hk
  | some x =>
    rw [hf] at h
    have h2 : (x.f0.toList == s.toList) = true := List.find?_some (p := fun x : Nd => x.f0.toList == s.toList) hf
    exact ⟨x, List.mem_of_find?_eq_some hf, eq_of_beq h2, h⟩
theorem tree_idx {l : List Nd} (hT : mayT [] ⟨#[]⟩ l = true) {i : Nat} (hi : i < l.length) : fsIdx (l.take i) l[i].f0 = i :=
  fsIdx_is (by rw [List.length_take]; omega) (fun j hj hji => by rw [List.getElem_take]; exact less_at hT hji hi) (fun hj => by rw [List.length_take] at hj; omega)
theorem tree_ins {l : List Nd} (hT : mayT [] ⟨#[]⟩ l = true) {i : Nat} (hi : i < l.length) : ins (l.take i) l[i] = l.take (i + 1) := by
  unfold ins
  rw [tree_idx hT hi, List.take_take, Nat.min_self, List.drop_eq_nil_of_le (by rw [List.length_take]; omega)]
  exact (List.take_succ_eq_append_getElem hi).symm
theorem tree_sorted {l : List Nd} (hT : mayT [] ⟨#[]⟩ l = true) : Sorted l := (mayT_sorted l _ _ hT).2
theorem tree_on {l : List Nd} (hT : mayT [] ⟨#[]⟩ l = true) {i : Nat} (hi : i < l.length) : one l[i] = true ∧ ((parentOf l[i].f0).2 = true → seen (l.take i) (parentOf l[i].f0).1 = 53) ∧ (l[i].f2 = 49 → seen (l.take i) l[i].f1 = 48) := by
  obtain ⟨last, hst⟩ := step_at hT hi
  unfold step at hst
  rw [Bool.and_eq_true, Bool.and_eq_true, Bool.and_eq_true, Bool.not_eq_true', Bool.not_eq_true', Bool.not_eq_true', Bool.and_eq_false_iff, Bool.and_eq_false_iff, Bool.not_eq_false', Bool.not_eq_false'] at hst
  obtain ⟨h1, _, h3, h4⟩ := hst
  refine ⟨h1, fun h => ?_, fun h => ?_⟩
  · rcases h3 with c | c
    · rw [h] at c; cases c
    · exact eq_of_beq c
  · rcases h4 with c | c
    · rw [beq_eq_false_iff_ne] at c; exact absurd h c
    · exact eq_of_beq c
theorem tree_stands {l : List Nd} (hT : mayT [] ⟨#[]⟩ l = true) {i : Nat} (hi : i < l.length) : standsB (l.take i) l[i] = true := by
  obtain ⟨_, h2, h3⟩ := tree_on hT hi
  have hs : Sorted (l.take i) := tree_sorted (mayT_take hT i)
  refine stands_iff.2 ⟨fun h => (is_iff hs).2 ?_, fun h => (is_iff hs).2 ?_⟩
  · exact seen_at (by decide) (h2 h)
  · exact seen_at (by decide) (h3 h)
theorem tree_may {l : List Nd} (hl : l.length ≤ 20) (hT : mayT [] ⟨#[]⟩ l = true) : fsMay l = true := by
  refine may_iff.2 ⟨hl, tree_sorted hT, fun x hx => ?_, fun x hx => ?_⟩
  · obtain ⟨i, hi, rfl⟩ := List.getElem_of_mem hx
    exact (tree_on hT hi).1
  · obtain ⟨i, hi, rfl⟩ := List.getElem_of_mem hx
    exact stands_more (tree_sorted (mayT_take hT i)) (tree_sorted hT) (fun y hy => List.mem_of_mem_take hy) (tree_stands hT hi)
theorem tree_put {l : List Nd} (hl : l.length ≤ 20) (hT : mayT [] ⟨#[]⟩ l = true) {i : Nat} (hi : i < l.length) : fsPut (l.take i) l[i] = (l.take (i + 1), 0) := by
  have h : (fsPut (l.take i) l[i]).2 = 0 := put_ok.2 ⟨tree_may (by rw [List.length_take]; omega) (mayT_take hT i), (tree_on hT hi).1, not_has (fun x hx => by
    obtain ⟨j, hj, rfl⟩ := List.mem_take_iff_getElem.1 hx
    exact less_ne (less_at hT (by omega) hi)), tree_stands hT hi, by rw [List.length_take]; omega⟩
  rw [put_is h, tree_ins hT hi]
/-- Whose bytes they are, and what Text tells. -/
theorem tree_text {l : List Nd} (hl : l.length ≤ 20) (hT : mayT [] ⟨#[]⟩ l = true) {k : Nat} (hk : k < l.length) : ∃ j, ∃ hj : j < l.length, (l[k].f2 = 49 → idxOf (fun x : Nd => x.f0.toList == l[k].f1.toList) l = (j : Int)) ∧ (l[k].f2 ≠ 49 → j = k) ∧
    ((l[j].f2 = 48 ∧ fsText l l[k].f0 = (l[j].f7, 0)) ∨ (l[j].f2 ≠ 48 ∧ fsText l l[k].f0 = (⟨#[]⟩, 9))) := by
  have hm := tree_may hl hT
  have hg : fsGet l l[k].f0 = (l[k], 0) := get_mem hm (List.getElem_mem hk) rfl
  by_cases h49 : l[k].f2 = 49
  · obtain ⟨x, hx, he, h2⟩ := seen_at (by decide) ((tree_on hT hk).2.2 h49)
    obtain ⟨j, hj, rfl⟩ := List.getElem_of_mem (List.mem_of_mem_take hx)
    refine ⟨j, hj, fun _ => by rw [← he]; exact idx_at hT hj, fun h => absurd h49 h, .inl ⟨h2, ?_⟩⟩
    have hg2 : fsGet l l[k].f1 = (l[j], 0) := get_mem hm (List.getElem_mem hj) he
    unfold fsText
    rw [hg, if_pos ⟨rfl, h49⟩, hg2]
    unfold textOf
    rw [if_pos rfl, if_pos h2]
  · refine ⟨k, hk, fun h => absurd h h49, fun _ => rfl, ?_⟩
    have ht : fsText l l[k].f0 = textOf (l[k], 0) := by
      unfold fsText
      rw [hg, if_neg (fun h => h49 h.2)]
    by_cases h48 : l[k].f2 = 48
    · refine .inl ⟨h48, ?_⟩
      rw [ht]; unfold textOf
      rw [if_pos rfl, if_pos h48]
    · refine .inr ⟨h48, ?_⟩
      rw [ht]; unfold textOf
      rw [if_pos rfl, if_neg h48]
theorem ref_self_loop (l : List Nd) (hl : l.length ≤ 30) : ∀ (d i : Nat), i + d = l.length → Ev (fun k => reelkeeperref06_Same.l0 k l l (i : Int)) true := by
  intro d
  induction d with
  | zero =>
    intro i hi
    refine Ev.step (fun _ => rfl) ?_
    simp only [reelkeeperref06_Same.l0]
    exact Ev.if_neg (by omega) (Ev.now _)
  | succ d ih =>
    intro i hi
    refine Ev.step (fun _ => rfl) ?_
    simp only [reelkeeperref06_Same.l0]
    refine Ev.if_pos (by omega) ?_
    refine Ev.if_pos (by omega) ?_
    refine Ev.if_pos (by omega) ?_
    refine Ev.if_neg (by simp) ?_
    have hw : wrap64 ((i : Int) + 1) = ((i + 1 : Nat) : Int) := by rw [wrap_id (by omega) (by omega)]; omega
    rw [hw]
    exact ih (i + 1) (by omega)
theorem ref_self (l : List Nd) (hl : l.length ≤ 30) : Ev (fun k => reelkeeperref06_Same.f k l l) true := by
  unfold reelkeeperref06_Same.f
  exact Ev.if_pos rfl (ref_self_loop l hl l.length 0 (by omega))
def reelkeeperlaw19_FsTree.f (k : Nat) (l0 : List Nd) (a1 : Int) : Option Bool := some true
theorem FsTree_told (l : List Nd) (a : Int) : ∃ k, reelkeeperlaw19_FsTree.f k l a = some true := ⟨0, rfl⟩
set_option maxHeartbeats 3200000 in
theorem fs_tree.at_ (A : Option Addr) (c : Nat) (l : List Nd) (a : Int) (w : World) (hC : Kd.C kNd w A l.length l) (hc : l.length ≤ c) :
    Calls Try.prog 8 #[.slice A l.length c, .int .i64 a] w fun e w' => e = .returned (.bool true) ∧ Below w.heap.size w w' := by
  have HC := Aside0.mk hC
  have HB0 := Aside0.mk (Below.refl w.heap.size w)
  have hup := fun W => awake19.at_ W
  obtain ⟨kf, hkf⟩ := Ev.rounds (few_ev l)
  have hfew := fun W hC' => reelkeeperlaw06_Few.calls kf A c l _ W hC' hc hkf
  clear hkf hC
  cases hf : fewL l with
  | false =>
    rw [hf] at hfew
    clear hf
    go_enter Try.func8, Try.ntmps8
    go_upto_region 2 with (go_at_call 9; refine (hup _).mono ?_; rintro e_ w1 ⟨rfl, hb⟩; have HB1 := Aside0.mk (below_step HB0.out hb); clear hb)
    go_wp2_with (go_at_call 10; refine (hfew _ (Kd.C_below HC.out HB1.out)).mono ?_; rintro e_ w2 ⟨rfl, hb⟩; have HB2 := Aside0.mk (below_step HB1.out hb); clear hb)
    go_ret
    exact ⟨rfl, HB2.out⟩
  | true =>
    rw [hf] at hfew
    obtain ⟨hl30, hok⟩ := fewL_iff.1 hf
    obtain ⟨km, hkm⟩ := Ev.rounds (may_ev hok)
    have hmt := fun W hC' => tree_May.calls km A c l _ W hC' hc hkm
    clear hkm
    cases hm : mayF l with
    | false =>
      rw [hm] at hmt
      clear hf hm hok hl30
      go_enter Try.func8, Try.ntmps8
      go_upto_region 2 with (go_at_call 9; refine (hup _).mono ?_; rintro e_ w1 ⟨rfl, hb⟩; have HB1 := Aside0.mk (below_step HB0.out hb); clear hb)
      go_upto_region 3 with (go_at_call 10; refine (hfew _ (Kd.C_below HC.out HB1.out)).mono ?_; rintro e_ w2 ⟨rfl, hb⟩; have HB2 := Aside0.mk (below_step HB1.out hb); clear hb)
      go_wp2_with (go_at_call 27; refine (hmt _ (Kd.C_below HC.out HB2.out)).mono ?_; rintro e_ w3 ⟨rfl, hb⟩; have HB3 := Aside0.mk (below_step HB2.out hb); clear hb)
      go_ret
      exact ⟨rfl, HB3.out⟩
    | true =>
      rw [hm] at hmt
      have hmf := hm
      unfold mayF at hmf
      rw [Bool.and_eq_true, decide_eq_true_eq] at hmf
      obtain ⟨hl, hT⟩ := hmf
      obtain ⟨ks, hks⟩ := Ev.rounds (ref_self l hl30)
      have hl0 : l.length ≤ 1000 := by omega
      have hms := tree_may hl hT
      clear hf hm
      go_enter Try.func8, Try.ntmps8
      go_upto_region 2 with (go_at_call 9; refine (hup _).mono ?_; rintro e_ w1 ⟨rfl, hb⟩; have HB1 := Aside0.mk (below_step HB0.out hb); clear hb)
      go_upto_region 3 with (go_at_call 10; refine (hfew _ (Kd.C_below HC.out HB1.out)).mono ?_; rintro e_ w2 ⟨rfl, hb⟩; have HB2 := Aside0.mk (below_step HB1.out hb); clear hb)
      go_upto_region 5 with (go_at_call 27; refine (hmt _ (Kd.C_below HC.out HB2.out)).mono ?_; rintro e_ w3 ⟨rfl, hb⟩; have HB3 := Aside0.mk (below_step HB2.out hb); clear hb)
      have HB := Aside0.mk (below_alloc HB3.out (.cells #[.slice none 0 0] 24))
      have HF := Aside0.mk (heap_alloc_new w3 (.cells #[.slice none 0 0] 24))
      have HLE := Aside0.mk HB3.out.size
      have HCW := HC
      have HT := Aside0.mk hT
      have HOK := Aside0.mk hok
      have HKS := Aside0.mk hks
      have HMS := Aside0.mk hms
      clear HC HB0 HB1 HB2 HB3 hup hfew hmt hT hok hks hms
      go_wp2_with (fail)
      go_loopw [8] (fun v8 wr => ∃ i : Nat, v8 = .int .i64 i ∧ i ≤ l.length ∧ ∃ AG cG, Aside0 (Below w.heap.size w wr) ∧ Aside0 (wr.heap[w3.heap.size]? = some (.cells #[.slice AG i cG] 24 (0, 0))) ∧ Aside0 (Kd.R kNd 26 wr w.heap.size (fun _ => True) (.slice AG i cG) (l.take i))) (fun v8 _ => l.length - (intOf v8).toNat)
      case atStart => exact ⟨0, rfl, Nat.zero_le _, none, 0, HB, HF, ⟨Kd.R_nil _ _ _ _ _⟩⟩
      case round =>
        obtain ⟨i, rfl, hi, AG, cG, HBr, HFr, HRr⟩ := hrel
        clear HB HF
        have HCr := Aside0.mk (Kd.C_below HCW.out HBr.out)
        have HCR := Aside0.mk (Kd.R_reads' HRr.out).2.2
        by_cases hlt : i < l.length
        · have hx := List.getElem?_eq_getElem hlt
          have hput := fun W hC' => fs_Put.at_ AG cG (l.take i) l[i] W hC' (by rw [List.length_take]; omega) (fun y hy => HOK.out y (List.mem_of_mem_take hy)) (HOK.out _ (List.getElem_mem hlt))
          have hlen : (l.take i).length = i := by rw [List.length_take]; omega
          have hlen1 : (l.take (i + 1)).length = i + 1 := by rw [List.length_take]; omega
          simp only [tree_put hl HT.out hlt, hlen, hlen1] at hput
          have HCR := Aside0.mk (show Kd.C kNd wr AG i (l.take i) by have h_ := HCR.out; rw [hlen] at h_; exact h_)
          clear hlen
          obtain ⟨ad, rfl, k0, k1, k2, k3, k4, k5, k6, k7⟩ := nd_cells HCr.out hlt _ hx
          have hk : ∀ W, Kd.C kNd W (some ad) l.length l → W.cell? (ad.add (i * 8)) = some (.string l[i].f0) ∧ W.cell? ⟨(ad.add (i * 8)).block, (ad.add (i * 8)).off + 1, none⟩ = some (.string l[i].f1) ∧ W.cell? ⟨(ad.add (i * 8)).block, (ad.add (i * 8)).off + 2, none⟩ = some (.int .u8 l[i].f2) ∧ W.cell? ⟨(ad.add (i * 8)).block, (ad.add (i * 8)).off + 3, none⟩ = some (.int .i64 l[i].f3) ∧ W.cell? ⟨(ad.add (i * 8)).block, (ad.add (i * 8)).off + 4, none⟩ = some (.int .i64 l[i].f4) ∧ W.cell? ⟨(ad.add (i * 8)).block, (ad.add (i * 8)).off + 5, none⟩ = some (.int .i64 l[i].f5) ∧ W.cell? ⟨(ad.add (i * 8)).block, (ad.add (i * 8)).off + 6, none⟩ = some (.int .i64 l[i].f6) ∧ W.cell? ⟨(ad.add (i * 8)).block, (ad.add (i * 8)).off + 7, none⟩ = some (.string l[i].f7) := fun W h => (by obtain ⟨ad2, h0, hh⟩ := nd_cells h hlt _ hx; obtain rfl := Option.some.inj h0; exact hh)
          generalize l[i] = x at *
          obtain ⟨f0, f1, f2, f3, f4, f5, f6, f7⟩ := x
          simp only at k0 k1 k2 k3 k4 k5 k6 k7 hput hk
          have HK := Aside0.mk hk
          clear hk hx
          have zF := (blk_cell HFr.out 0).trans (show _ = some (Value.slice AG i cG) from rfl)
          have hi0 : (0 : Int) ≤ (i : Int) := by omega
          have hi1 : (i : Int) < (l.length : Int) := by omega
          have g2 : IntKind.i64.wrap ((i : Int) + 1) = ((i + 1 : Nat) : Int) := by rw [i64_w, wrap_id (by omega) (by omega)]; omega
          go_upto_region 9 with (fail)
          go_cut [9, 10] (fun v9 v10 wc => ∃ (g : Nat) (A2 : Option Addr) (c2 : Nat), v9 = .pointer (some ⟨g, 0, none⟩) ∧ v10 = .int .i64 0 ∧ Aside0 (Below w.heap.size w wc) ∧ Aside0 (wc.heap[w3.heap.size]? = some (.cells #[.slice AG i cG] 24 (0, 0))) ∧ Aside0 (wc.heap[g]? = some (.cells #[.slice A2 (i + 1) c2] 24 (0, 0))) ∧ Aside0 (Kd.R kNd 26 wc w.heap.size (fun _ => True) (.slice A2 (i + 1) c2) (l.take (i + 1))))
          case first =>
            refine start_ (n := 12) (S := fun w' => w'.cell? ⟨w3.heap.size, 0, none⟩ = some (.slice AG i cG) ∧ w'.cell? (ad.add (i * 8)) = some (.string f0) ∧ w'.cell? ⟨(ad.add (i * 8)).block, (ad.add (i * 8)).off + 1, none⟩ = some (.string f1) ∧ w'.cell? ⟨(ad.add (i * 8)).block, (ad.add (i * 8)).off + 2, none⟩ = some (.int .u8 f2) ∧ w'.cell? ⟨(ad.add (i * 8)).block, (ad.add (i * 8)).off + 3, none⟩ = some (.int .i64 f3) ∧ w'.cell? ⟨(ad.add (i * 8)).block, (ad.add (i * 8)).off + 4, none⟩ = some (.int .i64 f4) ∧ w'.cell? ⟨(ad.add (i * 8)).block, (ad.add (i * 8)).off + 5, none⟩ = some (.int .i64 f5) ∧ w'.cell? ⟨(ad.add (i * 8)).block, (ad.add (i * 8)).off + 6, none⟩ = some (.int .i64 f6) ∧ w'.cell? ⟨(ad.add (i * 8)).block, (ad.add (i * 8)).off + 7, none⟩ = some (.string f7)) (ds := [10]) #[false, false, false, false, false, false, false, false, false, false, false, false] (by kernel_rfl) rfl rfl ⟨zF, k0, k1, k2, k3, k4, k5, k6, k7⟩ (fun hHeld => ?_)
            have HBd := Aside0.mk (below_drew1 HBr.out)
            have HFd := Aside0.mk (blk_drew HFr.out)
            have HCd := Aside0.mk (Kd.C_drew HCr.out)
            have HCRd := Aside0.mk (Kd.C_drew HCR.out)
            refine take_ (i := 0) (N := some 37) (v := ?_) (a' := ?_) #[true, false, false, false, false, false, false, false, false, false, false, false] rfl rfl (by kernel_rfl) (fun _ _ _ h => h) (Or.inl ⟨by rfl, ?_⟩) hHeld ?_ ?_
            rotate_left
            · rintro w' ⟨s0, s1, s2, s3, s4, s5, s6, s7, s8⟩
              go_simp
              with_reducible rfl
            rotate_left
            · simp only [Act.put, List.setIfInBounds_toArray, List.set_cons_zero, List.set_cons_succ, i64_w, i32_w]
              rfl
            refine pure_ (i := 1) (N := some 38) (v := ?_) (a' := ?_) #[true, true, false, false, false, false, false, false, false, false, false, false] rfl rfl (by kernel_rfl) (fun _ _ _ h => h) (Or.inl ⟨by rfl, ?_⟩) ?_ ?_
            rotate_left
            · intro w'
              go_simp
              with_reducible rfl
            rotate_left
            · simp only [Act.put, List.setIfInBounds_toArray, List.set_cons_zero, List.set_cons_succ, i64_w, i32_w]
              rfl
            refine pure_ (i := 2) (N := some 39) (v := ?_) (a' := ?_) #[true, true, true, false, false, false, false, false, false, false, false, false] rfl rfl (by kernel_rfl) (fun _ _ _ h => h) (Or.inl ⟨by rfl, ?_⟩) ?_ ?_
            rotate_left
            · intro w'
              go_simp
              with_reducible rfl
            rotate_left
            · simp only [Act.put, List.setIfInBounds_toArray, List.set_cons_zero, List.set_cons_succ, i64_w, i32_w]
              rfl
            refine pure_ (i := 3) (N := some 40) (v := ?_) (a' := ?_) #[true, true, true, true, false, false, false, false, false, false, false, false] rfl rfl (by kernel_rfl) (fun _ _ _ h => h) (Or.inl ⟨by rfl, ?_⟩) ?_ ?_
            rotate_left
            · intro w'
              go_simp
              with_reducible rfl
            rotate_left
            · simp only [Act.put, List.setIfInBounds_toArray, List.set_cons_zero, List.set_cons_succ, i64_w, i32_w]
              rfl
            refine take_ (i := 4) (N := some 41) (v := ?_) (a' := ?_) #[true, true, true, true, true, false, false, false, false, false, false, false] rfl rfl (by kernel_rfl) (fun _ _ _ h => h) (Or.inl ⟨by rfl, ?_⟩) hHeld ?_ ?_
            rotate_left
            · rintro w' ⟨s0, s1, s2, s3, s4, s5, s6, s7, s8⟩
              go_simp
              with_reducible rfl
            rotate_left
            · simp only [Act.put, List.setIfInBounds_toArray, List.set_cons_zero, List.set_cons_succ, i64_w, i32_w]
              rfl
            refine two_ (i := 5) (Ni := some 42) (j := 9) (Nj := some 9) #[true, true, true, true, true, true, false, false, false, false, false, false] #[true, true, true, true, true, false, false, false, false, true, false, false] rfl rfl rfl rfl (by kernel_rfl) (by decide) (by decide) (fun K hK => ?_) (fun K hK => ?_)
            · skip
              refine goes_ Try.func12 (by kernel_rfl) rfl #[.agg #[.slice AG i cG], .agg #[.string f0, .string f1, .int .u8 f2, .int .i64 f3, .int .i64 f4, .int .i64 f5, .int .i64 f6, .string f7]] (by rfl) rfl rfl (by (try simp only [List.map_toArray, List.map_cons, List.map_nil]); first | done | rfl | (simp only [List.length_drop, List.length_take]; rfl)) ?_
              refine (hput _ HCRd.out).mono ?_
              rintro e_ wq ⟨A2, c2, rfl, hR, hb⟩
              have HBq := Aside0.mk (below_step HBd.out hb)
              have HFq := Aside0.mk (blk_below HFd.out hb)
              have HRq := Aside0.mk (Kd.R_lower hR.out HBd.out.size)
              have HCq := Aside0.mk (Kd.C_below HCd.out hb)
              clear hb hR
              have zq := (blk_cell HFq.out 0).trans (show _ = some (Value.slice AG i cG) from rfl)
              obtain ⟨q0, q1, q2, q3, q4, q5, q6, q7⟩ := HK.out _ HCq.out
              refine ⟨_, rfl, ?_⟩
              refine hK.out _ _ ⟨zq, q0, q1, q2, q3, q4, q5, q6, q7⟩ (fun hHeld => ?_)
              clear hK K
              refine norm_ (a' := ?_) ?_ ?_
              rotate_left
              · show Act.put _ (some 42) _ = _
                simp only [Act.put, List.setIfInBounds_toArray, List.set_cons_zero, List.set_cons_succ, i64_w, i32_w]
                rfl
              clear zF k0 k1 k2 k3 k4 k5 k6 k7 zq q0 q1 q2 q3 q4 q5 q6 q7
              refine pure_ (i := 6) (N := some 36) (v := ?_) (a' := ?_) #[true, true, true, true, true, true, true, false, false, false, false, false] rfl rfl (by kernel_rfl) (fun _ _ _ h => h) (Or.inl ⟨by rfl, ?_⟩) ?_ ?_
              rotate_left
              · intro w'
                go_simp
                with_reducible rfl
              rotate_left
              · simp only [Act.put, List.setIfInBounds_toArray, List.set_cons_zero, List.set_cons_succ, i64_w, i32_w]
                rfl
              refine pure_ (i := 7) (N := some 43) (v := ?_) (a' := ?_) #[true, true, true, true, true, true, true, true, false, false, false, false] rfl rfl (by kernel_rfl) (fun _ _ _ h => h) (Or.inl ⟨by rfl, ?_⟩) ?_ ?_
              rotate_left
              · intro w'
                go_simp
                with_reducible rfl
              rotate_left
              · simp only [Act.put, List.setIfInBounds_toArray, List.set_cons_zero, List.set_cons_succ, i64_w, i32_w]
                rfl
              refine pure_ (i := 8) (N := some 44) (v := ?_) (a' := ?_) #[true, true, true, true, true, true, true, true, true, false, false, false] rfl rfl (by kernel_rfl) (fun _ _ _ h => h) (Or.inl ⟨by rfl, ?_⟩) ?_ ?_
              rotate_left
              · intro w'
                go_simp
                with_reducible rfl
              rotate_left
              · simp only [Act.put, List.setIfInBounds_toArray, List.set_cons_zero, List.set_cons_succ, i64_w, i32_w]
                rfl
              refine one_ (i := 9) (N := some 9) #[true, true, true, true, true, true, true, true, true, true, false, false] rfl rfl (by kernel_rfl) (by decide) (fun K hK => ?_)
              rw [if_pos (by rfl)]
              go_simp
              have HBg := Aside0.mk ((below_alloc HBq.out (.cells #[.slice none 0 0] 24)))
              have HFg := Aside0.mk ((blk_alloc HFq.out (.cells #[.slice none 0 0] 24)))
              have HCg := Aside0.mk ((Kd.C_alloc HCq.out (.cells #[.slice none 0 0] 24)))
              have HRg := Aside0.mk ((Kd.R_alloc HRq.out (.cells #[.slice none 0 0] 24)))
              have HGg := Aside0.mk (( heap_alloc_new wq (.cells #[.slice none 0 0] 24)))
              have z_ := (blk_cell HFg.out 0).trans (show _ = some (Value.slice AG i cG) from rfl)
              obtain ⟨r0, r1, r2, r3, r4, r5, r6, r7⟩ := HK.out _ HCg.out
              refine hK.out _ _ ⟨z_, r0, r1, r2, r3, r4, r5, r6, r7⟩ (fun hHeld => ?_)
              clear hK K z_ r0 r1 r2 r3 r4 r5 r6 r7
              obtain ⟨Wg, hWa⟩ : ∃ W, (wq.alloc (.cells #[.slice none 0 0] 24)) = W := ⟨_, rfl⟩
              rw [hWa] at HBg HFg HCg HRg HGg hHeld ⊢
              clear hWa
              have zG := (blk_cell HGg.out 0).trans (show _ = some (Value.slice none 0 0) from rfl)
              have yG := blk_frozen HGg.out 0
              refine last_ (i := 10) (N := none) #[true, true, true, true, true, true, true, true, true, true, true, false] rfl rfl (by kernel_rfl) (by decide) (fun K hK => ?_)
              rw [if_pos (by rfl)]
              go_simp
              refine hK.out _ _ ?_
              clear hK K
              refine pure_ (i := 11) (N := some 10) (v := ?_) (a' := ?_) #[true, true, true, true, true, true, true, true, true, true, true, true] rfl rfl (by kernel_rfl) (fun _ _ _ h => h) (Or.inl ⟨by rfl, ?_⟩) ?_ ?_
              rotate_left
              · intro w'
                go_simp
                with_reducible rfl
              rotate_left
              · simp only [Act.put, List.setIfInBounds_toArray, List.set_cons_zero, List.set_cons_succ, i64_w, i32_w]
                rfl
              refine done_ (by kernel_rfl) ?_
              have HNE := Aside0.mk (blk_lt HFr.out)
              have HB5 := Aside0.mk (HBg.out.setCell (p := ⟨wq.heap.size, 0, none⟩) (by have h1 := HBr.out.size; have h2 := (HBq.out).size; show w.heap.size ≤ wq.heap.size; omega) (.slice A2 (i + 1) c2))
              have HF5 := Aside0.mk (blk_far HFg.out (p := ⟨wq.heap.size, 0, none⟩) (by show w3.heap.size ≠ wq.heap.size; have h3 := HNE.out; have h2 := blk_lt HFq.out; omega) (.slice A2 (i + 1) c2))
              have HG5 := Aside0.mk (blk_put HGg.out 0 (.slice A2 (i + 1) c2) rfl)
              have HR5 := Aside0.mk (R_past HRg.out HGg.out (.slice A2 (i + 1) c2))
              go_wp2_with (fail)
              go_meet
              case rel => exact ⟨_, A2, c2, rfl, rfl, HB5, HF5, HG5, HR5⟩
            · skip
              rw [if_pos (by rfl)]
              go_simp
              have HBa := Aside0.mk (below_drew1 (below_alloc HBr.out (.cells #[.slice none 0 0] 24)))
              have HFa := Aside0.mk (blk_drew (blk_alloc HFr.out (.cells #[.slice none 0 0] 24)))
              have HCa := Aside0.mk (Kd.C_drew (Kd.C_alloc HCr.out (.cells #[.slice none 0 0] 24)))
              have HCRa := Aside0.mk (Kd.C_drew (Kd.C_alloc HCR.out (.cells #[.slice none 0 0] 24)))
              have HGa := Aside0.mk (blk_drew ( heap_alloc_new wr (.cells #[.slice none 0 0] 24)))
              have z_ := (blk_cell HFa.out 0).trans (show _ = some (Value.slice AG i cG) from rfl)
              obtain ⟨r0, r1, r2, r3, r4, r5, r6, r7⟩ := HK.out _ HCa.out
              refine hK.out _ _ ⟨z_, r0, r1, r2, r3, r4, r5, r6, r7⟩ (fun hHeld => ?_)
              clear hK K z_ r0 r1 r2 r3 r4 r5 r6 r7
              obtain ⟨Wa, hWa⟩ : ∃ W, (wr.alloc (.cells #[.slice none 0 0] 24)).drew = W := ⟨_, rfl⟩
              rw [hWa] at HBa HFa HCa HCRa HGa hHeld ⊢
              clear hWa
              refine one_ (i := 5) (N := some 42) #[true, true, true, true, true, true, false, false, false, true, false, false] rfl rfl (by kernel_rfl) (by decide) (fun K hK => ?_)
              refine goes_ Try.func12 (by kernel_rfl) rfl #[.agg #[.slice AG i cG], .agg #[.string f0, .string f1, .int .u8 f2, .int .i64 f3, .int .i64 f4, .int .i64 f5, .int .i64 f6, .string f7]] (by rfl) rfl rfl (by (try simp only [List.map_toArray, List.map_cons, List.map_nil]); first | done | rfl | (simp only [List.length_drop, List.length_take]; rfl)) ?_
              refine (hput _ HCRa.out).mono ?_
              rintro e_ wq ⟨A2, c2, rfl, hR, hb⟩
              have HBq := Aside0.mk (below_step HBa.out hb)
              have HFq := Aside0.mk (blk_below HFa.out hb)
              have HRq := Aside0.mk (Kd.R_lower hR.out HBa.out.size)
              have HCq := Aside0.mk (Kd.C_below HCa.out hb)
              have HGq := Aside0.mk (blk_below HGa.out hb)
              clear hb hR
              have zq := (blk_cell HFq.out 0).trans (show _ = some (Value.slice AG i cG) from rfl)
              obtain ⟨q0, q1, q2, q3, q4, q5, q6, q7⟩ := HK.out _ HCq.out
              refine ⟨_, rfl, ?_⟩
              refine hK.out _ _ ⟨zq, q0, q1, q2, q3, q4, q5, q6, q7⟩ (fun hHeld => ?_)
              clear hK K
              refine norm_ (a' := ?_) ?_ ?_
              rotate_left
              · show Act.put _ (some 42) _ = _
                simp only [Act.put, List.setIfInBounds_toArray, List.set_cons_zero, List.set_cons_succ, i64_w, i32_w]
                rfl
              clear zF k0 k1 k2 k3 k4 k5 k6 k7 zq q0 q1 q2 q3 q4 q5 q6 q7
              refine pure_ (i := 6) (N := some 36) (v := ?_) (a' := ?_) #[true, true, true, true, true, true, true, false, false, true, false, false] rfl rfl (by kernel_rfl) (fun _ _ _ h => h) (Or.inl ⟨by rfl, ?_⟩) ?_ ?_
              rotate_left
              · intro w'
                go_simp
                with_reducible rfl
              rotate_left
              · simp only [Act.put, List.setIfInBounds_toArray, List.set_cons_zero, List.set_cons_succ, i64_w, i32_w]
                rfl
              refine pure_ (i := 7) (N := some 43) (v := ?_) (a' := ?_) #[true, true, true, true, true, true, true, true, false, true, false, false] rfl rfl (by kernel_rfl) (fun _ _ _ h => h) (Or.inl ⟨by rfl, ?_⟩) ?_ ?_
              rotate_left
              · intro w'
                go_simp
                with_reducible rfl
              rotate_left
              · simp only [Act.put, List.setIfInBounds_toArray, List.set_cons_zero, List.set_cons_succ, i64_w, i32_w]
                rfl
              refine pure_ (i := 8) (N := some 44) (v := ?_) (a' := ?_) #[true, true, true, true, true, true, true, true, true, true, false, false] rfl rfl (by kernel_rfl) (fun _ _ _ h => h) (Or.inl ⟨by rfl, ?_⟩) ?_ ?_
              rotate_left
              · intro w'
                go_simp
                with_reducible rfl
              rotate_left
              · simp only [Act.put, List.setIfInBounds_toArray, List.set_cons_zero, List.set_cons_succ, i64_w, i32_w]
                rfl
              have zG := (blk_cell HGq.out 0).trans (show _ = some (Value.slice none 0 0) from rfl)
              have yG := blk_frozen HGq.out 0
              refine last_ (i := 10) (N := none) #[true, true, true, true, true, true, true, true, true, true, true, false] rfl rfl (by kernel_rfl) (by decide) (fun K hK => ?_)
              rw [if_pos (by rfl)]
              go_simp
              refine hK.out _ _ ?_
              clear hK K
              refine pure_ (i := 11) (N := some 10) (v := ?_) (a' := ?_) #[true, true, true, true, true, true, true, true, true, true, true, true] rfl rfl (by kernel_rfl) (fun _ _ _ h => h) (Or.inl ⟨by rfl, ?_⟩) ?_ ?_
              rotate_left
              · intro w'
                go_simp
                with_reducible rfl
              rotate_left
              · simp only [Act.put, List.setIfInBounds_toArray, List.set_cons_zero, List.set_cons_succ, i64_w, i32_w]
                rfl
              refine done_ (by kernel_rfl) ?_
              have HNE := Aside0.mk (blk_lt HFr.out)
              have HB5 := Aside0.mk (HBq.out.setCell (p := ⟨wr.heap.size, 0, none⟩) (by have h1 := HBr.out.size; have h2 := h1; show w.heap.size ≤ wr.heap.size; omega) (.slice A2 (i + 1) c2))
              have HF5 := Aside0.mk (blk_far HFq.out (p := ⟨wr.heap.size, 0, none⟩) (by show w3.heap.size ≠ wr.heap.size; have h3 := HNE.out; have h2 := h3; omega) (.slice A2 (i + 1) c2))
              have HG5 := Aside0.mk (blk_put HGq.out 0 (.slice A2 (i + 1) c2) rfl)
              have HR5 := Aside0.mk (R_past HRq.out HGq.out (.slice A2 (i + 1) c2))
              go_wp2_with (fail)
              go_meet
              case rel => exact ⟨_, A2, c2, rfl, rfl, HB5, HF5, HG5, HR5⟩
          case rest =>
            obtain ⟨g, A2, c2, rfl, rfl, HB5, HF5, HG5, HR5⟩ := hcut
            clear HBr HFr HRr HCr HCR zF k0 k1 k2 k3 k4 k5 k6 k7 hput
            have zG := (blk_cell HG5.out 0).trans (show _ = some (Value.slice A2 (i + 1) c2) from rfl)
            have zF := (blk_cell HF5.out 0).trans (show _ = some (Value.slice AG i cG) from rfl)
            have yF := blk_frozen HF5.out 0
            go_wp2_with (fail)
            go_roundw
            case rel => exact ⟨i + 1, by go_num, by omega, A2, c2, ⟨HB5.out.setCell (p := ⟨w3.heap.size, 0, none⟩) HLE.out _⟩, ⟨blk_put HF5.out 0 _ rfl⟩, ⟨R_past HR5.out HF5.out _⟩⟩
            case measure => simp [intOf]; omega
        · obtain rfl : i = l.length := by omega
          have hi1 : decide ((l.length : Int) < (l.length : Int)) = false := decide_eq_false (by omega)
          have HRr := Aside0.mk (show Kd.R kNd 26 wr w.heap.size (fun _ => True) (.slice AG l.length cG) l by have h_ := HRr.out; rw [List.take_length] at h_; exact h_)
          clear hlt HCR HCr
          have HQ := Aside0.mk (Kd.R_reads' HRr.out)
          have zF := (blk_cell HFr.out 0).trans (show _ = some (Value.slice AG l.length cG) from rfl)
          have hsm := fun W h0 h1 => reelkeeperref06_Same.calls ks AG cG l A c l _ W h0 HQ.out.2.1 h1 hc HKS.out
          have hmy := fun W hC' => fs_May.at_ AG cG l W hC' hl0 HOK.out
          simp only [HMS.out] at hmy
          go_upto_region 14 with (first | (go_at_call 28; refine (hsm _ HQ.out.2.2 (Kd.C_below HCW.out HBr.out)).mono ?_; rintro e_ w5 ⟨rfl, hd⟩; have hb := Drawn0.below hd; have HB5 := Aside0.mk (below_step HBr.out hb); have HF5 := Aside0.mk (blk_below HFr.out hb); have HR5 := Aside0.mk (Kd.R_below HRr.out hb); have zF5 := (blk_cell HF5.out 0).trans (show _ = some (Value.slice AG l.length cG) from rfl); clear hb hd zF))
          by_cases ha : 0 ≤ a ∧ a < (l.length : Int)
          · obtain ⟨k, rfl⟩ : ∃ k : Nat, a = (k : Int) := ⟨a.toNat, by omega⟩
            have hk : k < l.length := by omega
            have ha0 : decide ((k : Int) < 0) = false := decide_eq_false (by omega)
            have ha1 : decide ((k : Int) ≥ (l.length : Int)) = false := decide_eq_false (by omega)
            have ha2 : (0 : Int) ≤ (k : Int) := by omega
            have ha3 : (k : Int) < (l.length : Int) := by omega
            go_upto_region 16 with (first | (go_at_call 22; refine (hmy _ (Kd.R_reads' HR5.out).2.2).mono ?_; rintro e_ w6 ⟨rfl, hb⟩; have HB6 := Aside0.mk (below_step HB5.out hb); have HF6 := Aside0.mk (blk_below HF5.out hb); have HR6 := Aside0.mk (Kd.R_below HR5.out hb); have zF6 := (blk_cell HF6.out 0).trans (show _ = some (Value.slice AG l.length cG) from rfl); clear hb zF5))
            obtain ⟨j, hj, h49, hne, hcase⟩ := tree_text hl HT.out hk
            have htx := fun W hC' => fs_Text.at_ AG cG l l[k].f0 W hC' hl0 HOK.out
            have hfi := fun W hC' => tree_Find.calls A c l l[k].f1 _ W hC' hc (show tree_Find.f l l[k].f1 = some _ from rfl)
            obtain ⟨ad, rfl, k0, _, _, _, _, _, _, _⟩ := nd_cells (Kd.C_below HCW.out HB6.out) hk _ (List.getElem?_eq_getElem hk)
            generalize fsText l l[k].f0 = T at *
            obtain ⟨s, e⟩ := T
            simp only at htx
            refine start_ (n := 12) (S := fun w' => w'.cell? ⟨w3.heap.size, 0, none⟩ = some (.slice AG l.length cG) ∧ w'.cell? (ad.add (k * 8)) = some (.string l[k].f0)) (ds := []) #[false, false, false, false, false, false, false, false, false, false, false, false] (by kernel_rfl) rfl rfl ⟨zF6, k0⟩ (fun hHeld => ?_)
            refine take_ (i := 0) (N := some 75) (v := ?_) (a' := ?_) #[true, false, false, false, false, false, false, false, false, false, false, false] rfl rfl (by kernel_rfl) (fun _ _ _ h => h) (Or.inl ⟨by rfl, ?_⟩) hHeld ?_ ?_
            rotate_left
            · rintro w' ⟨s0, s1⟩
              go_simp
              with_reducible rfl
            rotate_left
            · simp only [Act.put, List.setIfInBounds_toArray, List.set_cons_zero, List.set_cons_succ, i64_w, i32_w]
              rfl
            refine pure_ (i := 1) (N := some 76) (v := ?_) (a' := ?_) #[true, true, false, false, false, false, false, false, false, false, false, false] rfl rfl (by kernel_rfl) (fun _ _ _ h => h) (Or.inl ⟨by rfl, ?_⟩) ?_ ?_
            rotate_left
            · intro w'
              go_simp
              with_reducible rfl
            rotate_left
            · simp only [Act.put, List.setIfInBounds_toArray, List.set_cons_zero, List.set_cons_succ, i64_w, i32_w]
              rfl
            refine pure_ (i := 2) (N := some 77) (v := ?_) (a' := ?_) #[true, true, true, false, false, false, false, false, false, false, false, false] rfl rfl (by kernel_rfl) (fun _ _ _ h => h) (Or.inl ⟨by rfl, ?_⟩) ?_ ?_
            rotate_left
            · intro w'
              go_simp
              with_reducible rfl
            rotate_left
            · simp only [Act.put, List.setIfInBounds_toArray, List.set_cons_zero, List.set_cons_succ, i64_w, i32_w]
              rfl
            refine pure_ (i := 3) (N := some 78) (v := ?_) (a' := ?_) #[true, true, true, true, false, false, false, false, false, false, false, false] rfl rfl (by kernel_rfl) (fun _ _ _ h => h) (Or.inl ⟨by rfl, ?_⟩) ?_ ?_
            rotate_left
            · intro w'
              go_simp
              with_reducible rfl
            rotate_left
            · simp only [Act.put, List.setIfInBounds_toArray, List.set_cons_zero, List.set_cons_succ, i64_w, i32_w]
              rfl
            refine pure_ (i := 4) (N := some 79) (v := ?_) (a' := ?_) #[true, true, true, true, true, false, false, false, false, false, false, false] rfl rfl (by kernel_rfl) (fun _ _ _ h => h) (Or.inl ⟨by rfl, ?_⟩) ?_ ?_
            rotate_left
            · intro w'
              go_simp
              with_reducible rfl
            rotate_left
            · simp only [Act.put, List.setIfInBounds_toArray, List.set_cons_zero, List.set_cons_succ, i64_w, i32_w]
              rfl
            refine take_ (i := 5) (N := some 80) (v := ?_) (a' := ?_) #[true, true, true, true, true, true, false, false, false, false, false, false] rfl rfl (by kernel_rfl) (fun _ _ _ h => h) (Or.inl ⟨by rfl, ?_⟩) hHeld ?_ ?_
            rotate_left
            · rintro w' ⟨s0, s1⟩
              go_simp
              with_reducible rfl
            rotate_left
            · simp only [Act.put, List.setIfInBounds_toArray, List.set_cons_zero, List.set_cons_succ, i64_w, i32_w]
              rfl
            refine one_ (i := 6) (N := some 81) #[true, true, true, true, true, true, true, false, false, false, false, false] rfl rfl (by kernel_rfl) (by decide) (fun K hK => ?_)
            refine goes_ Try.func18 (by kernel_rfl) rfl #[.agg #[.slice AG l.length cG], .string l[k].f0] (by rfl) rfl rfl (by (try simp only [List.map_toArray, List.map_cons, List.map_nil]); first | done | rfl | (simp only [List.length_drop, List.length_take]; rfl)) ?_
            refine (htx _ (Kd.C_drew (Kd.R_reads' HR6.out).2.2)).mono ?_
            rintro e_ w7 ⟨rfl, hb⟩
            have HB7 := Aside0.mk (below_step (below_drew1 HB6.out) hb)
            have HC7 := Aside0.mk (Kd.C_below HCW.out HB7.out)
            have HF7 := Aside0.mk (blk_below (blk_drew HF6.out) hb)
            have zF7 := (blk_cell HF7.out 0).trans (show _ = some (Value.slice AG l.length cG) from rfl)
            have k0_7 : w7.cell? (ad.add (k * 8)) = some (.string l[k].f0) := pw_cell_below hb (show w6.drew.cell? (ad.add (k * 8)) = _ from k0)
            clear hb
            refine ⟨_, rfl, ?_⟩
            refine hK.out _ _ ⟨zF7, k0_7⟩ (fun hHeld => ?_)
            clear hK K
            refine norm_ (a' := ?_) ?_ ?_
            rotate_left
            · show Act.put _ (some 81) _ = _
              simp only [Act.put, List.setIfInBounds_toArray, List.set_cons_zero, List.set_cons_succ, i64_w, i32_w]
              rfl
            clear k0 k0_7 zF6
            refine pure_ (i := 7) (N := some 74) (v := ?_) (a' := ?_) #[true, true, true, true, true, true, true, true, false, false, false, false] rfl rfl (by kernel_rfl) (fun _ _ _ h => h) (Or.inl ⟨by rfl, ?_⟩) ?_ ?_
            rotate_left
            · intro w'
              go_simp
              with_reducible rfl
            rotate_left
            · simp only [Act.put, List.setIfInBounds_toArray, List.set_cons_zero, List.set_cons_succ, i64_w, i32_w]
              rfl
            refine pure_ (i := 8) (N := some 82) (v := ?_) (a' := ?_) #[true, true, true, true, true, true, true, true, true, false, false, false] rfl rfl (by kernel_rfl) (fun _ _ _ h => h) (Or.inl ⟨by rfl, ?_⟩) ?_ ?_
            rotate_left
            · intro w'
              go_simp
              with_reducible rfl
            rotate_left
            · simp only [Act.put, List.setIfInBounds_toArray, List.set_cons_zero, List.set_cons_succ, i64_w, i32_w]
              rfl
            refine pure_ (i := 9) (N := some 83) (v := ?_) (a' := ?_) #[true, true, true, true, true, true, true, true, true, true, false, false] rfl rfl (by kernel_rfl) (fun _ _ _ h => h) (Or.inl ⟨by rfl, ?_⟩) ?_ ?_
            rotate_left
            · intro w'
              go_simp
              with_reducible rfl
            rotate_left
            · simp only [Act.put, List.setIfInBounds_toArray, List.set_cons_zero, List.set_cons_succ, i64_w, i32_w]
              rfl
            refine pure_ (i := 10) (N := some 12) (v := ?_) (a' := ?_) #[true, true, true, true, true, true, true, true, true, true, true, false] rfl rfl (by kernel_rfl) (fun _ _ _ h => h) (Or.inl ⟨by rfl, ?_⟩) ?_ ?_
            rotate_left
            · intro w'
              go_simp
              with_reducible rfl
            rotate_left
            · simp only [Act.put, List.setIfInBounds_toArray, List.set_cons_zero, List.set_cons_succ, i64_w, i32_w]
              rfl
            refine pure_ (i := 11) (N := some 13) (v := ?_) (a' := ?_) #[true, true, true, true, true, true, true, true, true, true, true, true] rfl rfl (by kernel_rfl) (fun _ _ _ h => h) (Or.inl ⟨by rfl, ?_⟩) ?_ ?_
            rotate_left
            · intro w'
              go_simp
              with_reducible rfl
            rotate_left
            · simp only [Act.put, List.setIfInBounds_toArray, List.set_cons_zero, List.set_cons_succ, i64_w, i32_w]
              rfl
            refine done_ (by kernel_rfl) ?_
            obtain ⟨ad2, e2_, _, c1, c2, _, _, _, _, _⟩ := nd_cells HC7.out hk _ (List.getElem?_eq_getElem hk)
            obtain rfl := Option.some.inj e2_
            clear e2_
            obtain ⟨ad2, e2_, _, _, d2, _, _, _, _, d7⟩ := nd_cells HC7.out hj _ (List.getElem?_eq_getElem hj)
            obtain rfl := Option.some.inj e2_
            clear e2_
            have hj0 : (0 : Int) ≤ (j : Int) := by omega
            have hj1 : (j : Int) < (l.length : Int) := by omega
            have hj2 : decide ((j : Int) < 0) = false := decide_eq_false (by omega)
            have hj3 : decide ((j : Int) ≥ (l.length : Int)) = false := decide_eq_false (by omega)
            clear ha ha0 ha1 HMS HOK HT
            by_cases hx49 : l[k].f2 = 49
            · have hfi2 := hfi
              rw [h49 hx49] at hfi2
              have b49 : (l[k].f2 == 49) = true := beq_iff_eq.2 hx49
              clear hfi h49 hne hx49
              go_upto_region 20 with (first | (go_at_call 29; refine (hfi2 _ HC7.out).mono ?_; rintro e_ w8 ⟨rfl, hb⟩; have HB8 := Aside0.mk (below_step HB7.out hb); have d2_8 := pw_cell_below hb d2; have d7_8 := pw_cell_below hb d7; clear hb d2 d7 c1 c2))
              rcases hcase with ⟨g48, hT⟩ | ⟨g48, hT⟩
              · obtain ⟨rfl, rfl⟩ := Prod.mk.inj hT
                have b48 : (l[j].f2 == 48) = true := beq_iff_eq.2 g48
                clear hT g48
                go_wp2_with (fail)
                go_ret
                exact ⟨rfl, HB8.out⟩
              · obtain ⟨rfl, rfl⟩ := Prod.mk.inj hT
                have b48 : (l[j].f2 == 48) = false := beq_eq_false_iff_ne.2 g48
                have b48n : (l[j].f2 != 48) = true := by simp only [bne, b48]; rfl
                clear hT g48
                go_wp2_with (fail)
                go_ret
                exact ⟨rfl, HB8.out⟩
            · have b49 : (l[k].f2 == 49) = false := beq_eq_false_iff_ne.2 hx49
              obtain rfl := hne hx49
              clear hfi h49 hne hx49
              go_upto_region 20 with (fail)
              rcases hcase with ⟨g48, hT⟩ | ⟨g48, hT⟩
              · obtain ⟨rfl, rfl⟩ := Prod.mk.inj hT
                have b48 : (l[j].f2 == 48) = true := beq_iff_eq.2 g48
                clear hT g48
                go_wp2_with (fail)
                go_ret
                exact ⟨rfl, HB7.out⟩
              · obtain ⟨rfl, rfl⟩ := Prod.mk.inj hT
                have b48 : (l[j].f2 == 48) = false := beq_eq_false_iff_ne.2 g48
                have b48n : (l[j].f2 != 48) = true := by simp only [bne, b48]; rfl
                clear hT g48
                go_wp2_with (fail)
                go_ret
                exact ⟨rfl, HB7.out⟩
          · have hR6 : ∀ (W W' : World), Kd.R kNd 26 W w.heap.size (fun _ => True) (.slice AG l.length cG) l → Below W.heap.size W W' → Kd.R kNd 26 W' w.heap.size (fun _ => True) (.slice AG l.length cG) l := fun W W' h1 h2 => Kd.R_below h1 h2
            by_cases h0 : a < 0
            · have ha0 : decide (a < 0) = true := decide_eq_true h0
              go_wp2_with (first | (go_at_call 22; (first | (have _t := HB5; refine (hmy _ (Kd.R_reads' HR5.out).2.2).mono ?_; rintro e_ wy ⟨rfl, hb⟩; have HBy := Aside0.mk (below_step HB5.out hb); have HFy := Aside0.mk (blk_below HF5.out hb); have HRy := Aside0.mk (Kd.R_below HR5.out hb); have zFy := (blk_cell HFy.out 0).trans (show _ = some (Value.slice AG l.length cG) from rfl); clear hb HB5 HF5 HR5 zF5) | (refine (hmy _ (Kd.R_reads' HRy.out).2.2).mono ?_; rintro e_ wz ⟨rfl, hb⟩; have HBz := Aside0.mk (below_step HBy.out hb); have HRz := Aside0.mk (Kd.R_below HRy.out hb); clear hb HBy HRy; have HBy := HBz; clear HBz))))
              go_ret
              exact ⟨rfl, HBy.out⟩
            · have ha0 : decide (a < 0) = false := decide_eq_false h0
              have ha1 : decide (a ≥ (l.length : Int)) = true := decide_eq_true (by omega)
              go_wp2_with (first | (go_at_call 22; (first | (have _t := HB5; refine (hmy _ (Kd.R_reads' HR5.out).2.2).mono ?_; rintro e_ wy ⟨rfl, hb⟩; have HBy := Aside0.mk (below_step HB5.out hb); have HFy := Aside0.mk (blk_below HF5.out hb); have HRy := Aside0.mk (Kd.R_below HR5.out hb); have zFy := (blk_cell HFy.out 0).trans (show _ = some (Value.slice AG l.length cG) from rfl); clear hb HB5 HF5 HR5 zF5) | (refine (hmy _ (Kd.R_reads' HRy.out).2.2).mono ?_; rintro e_ wz ⟨rfl, hb⟩; have HBz := Aside0.mk (below_step HBy.out hb); have HRz := Aside0.mk (Kd.R_below HRy.out hb); clear hb HBy HRy; have HBy := HBz; clear HBz))))
              go_ret
              exact ⟨rfl, HBy.out⟩
theorem reelkeeperlaw19_FsTree.calls (k : Nat) (A : Option Addr) (c : Nat) (l : List Nd) (a : Int) (r : Bool) (w : World) (hC : Kd.C kNd w A l.length l) (hc : l.length ≤ c) (h : reelkeeperlaw19_FsTree.f k l a = some r) :
    Calls Try.prog 8 #[.slice A l.length c, .int .i64 a] w fun e w' => e = .returned (.bool r) ∧ Below w.heap.size w w' := by
  obtain rfl : true = r := Option.some.inj h
  exact fs_tree.at_ A c l a w hC hc

end Go.Proofs.Ytklbnfpjjcidiaa.X
