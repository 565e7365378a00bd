import Derived.Test.YtlecnodlnkanaaaXK
import Derived.Test.YtlecnodlnkanaaaXGblock
import Derived.Test.YtlecnodlnkanaaaXGentry
import Derived.Test.YtlecnodlnkanaaaXGlaw08
import Derived.Test.YtlecnodlnkanaaaXGnum
import Derived.Test.YtlecnodlnkanaaaXGslices
import Derived.Test.YtlecnodlnkanaaaXGstream
import Derived.Test.YtlecnodlnkanaaaXGtext
import Derived.Test.YtlecnodlnkanaaaXGtree
import Derived.Test.YtlecnodlnkanaaaXreelkeeperlaw06Few
import Derived.Test.YtlecnodlnkanaaaP08a
import Derived.Test.YtlecnodlnkanaaaPGE
import Derived.Deep.RegionHeld3
import Derived.Laws.EntriesVeiled
import Derived.WalkSpells
namespace Go.Proofs.Ytlecnodlnkanaaa.X
open Go.RowKit Go.Proofs.YtlecnodlnkanaaaW.PrintWords Go.Proofs.YtlecnodlnkanaaaW.PrintLast Go.Proofs.YtlecnodlnkanaaaW.PrintMore
attribute [local go_sem] max2_int min2_int max_two min_two
set_option linter.unusedVariables false
set_option linter.unusedSimpArgs false

open Go.Proofs.YtlecnodlnkanaaaY
def reelkeeperlaw08_StreamData.f (k : Nat) (l0 : List Nd) (a1 : Int) : Option Bool := some true
theorem StreamData_told (l : List Nd) (a : Int) : ∃ k, reelkeeperlaw08_StreamData.f k l a = some true := ⟨0, rfl⟩
theorem strOfNums_append (a b : List Int) : strOfNums (a ++ b) = strOfNums a ++ strOfNums b := by
  unfold strOfNums
  apply ByteArray.ext
  apply Array.ext'
  simp
theorem R_elem {W : World} {base : Nat} {v : Value} {xs : List (List Int)} (h : Kd.R kRow 42 W base (fun _ => True) v xs) (i : Nat) (hi : i < xs.length) :
    ∃ ad c B d, v = .slice (some ad) xs.length c ∧ W.cell? (ad.add i) = some (.slice B (rdR xs i).length d) ∧ (rdR xs i).length ≤ d ∧ kRow.M W base (fun k => ∃ cells, W.heap[k]? = some (.cells cells 5 (0, 0))) (rdR xs i) [.slice B (rdR xs i).length d] := by
  obtain ⟨A, c, rfl, hc, hC⟩ := Kd.R_reads h
  obtain ⟨ad, B, d, rfl, hx, hd, _⟩ := at_row hC i hi
  refine ⟨ad, c, B, d, rfl, hx, hd, ?_⟩
  obtain ⟨_, inner, ho, hr⟩ := h
  have hl : inner.length = xs.length := by rw [hr.1]; exact Nat.mul_one _
  have hp := hr.2 i (rdR xs i) (by unfold rdR; rw [List.getD_eq_getElem?_getD, List.getElem?_eq_getElem hi]; rfl)
  have hu : inner[i]? = some (.slice B (rdR xs i).length d) := by
    rcases ho.2 with ⟨e, _⟩ | ⟨g, cap, cur, e, _⟩
    · cases e
    · injection e with e1 e2 e3
      injection e1 with e1
      subst e1
      have h1 := ho.cells (g := g) rfl i (inner[i]'(by omega)) (List.getElem?_eq_getElem _)
      rw [List.getElem?_eq_getElem (by omega)]
      rw [← h1]
      exact hx
  have he : (inner.drop (i * 1)).take 1 = [.slice B (rdR xs i).length d] := by
    rw [Nat.mul_one]
    have hi2 : i < inner.length := by omega
    rw [List.drop_eq_getElem_cons hi2, List.take_succ_cons, List.take_zero]
    rw [List.getElem?_eq_getElem hi2] at hu
    rw [Option.some.inj hu]
  have hp2 := kRow.M_bound hp
  have hsz : kRow.sz = 1 := rfl
  rw [hsz, he] at hp2
  refine kRow.M_mono (fun k hk => ?_) hp2
  obtain ⟨_, _, _, q, hq, cells, hc2⟩ := hk
  have h_ : q = 5 := by simpa [kRow, Kd.slice, Kd.int, Kd.scalar] using hq
  subst h_
  exact ⟨cells, hc2⟩
theorem R_far {w w1 : World} {base : Nat} {v : Value} {xs : List (List Int)} (h : Kd.R kRow 42 w base (fun _ => True) v xs) {row : Option Nat} (hg : w.grownBy w1 row) (hne : v.ownBlock = none ∨ v.ownBlock ≠ row) (hty : ∀ k, row = some k → ∃ cells, w.heap[k]? = some (.cells cells 42 (0, 0))) :
    Kd.R kRow 42 w1 base (fun _ => True) v xs := by
  obtain ⟨_, inner, ho, hr⟩ := h
  refine ⟨fun _ _ => trivial, inner, own_other ho hg hne, hr.imp_ (fun p cs hp => ?_)⟩
  have h1 := kRow.M_bound hp
  refine kRow.M_mono (fun k hk => hk.1) (kRow.M_move (fun k hk => hg.block k hk.2.2.1 (fun e => ?_)) h1)
  obtain ⟨_, _, _, q, hq, cells, hc⟩ := hk
  obtain ⟨cells', hc'⟩ := hty k e.symm
  rw [hc'] at hc
  cases hc
  exact kRow_E _ hq rfl
theorem okp_own {W : World} {base : Nat} {v : Value} {xs : List (List Int)} (h : Kd.R kRow 42 W base (fun _ => True) v xs) : ∀ k, (∃ cells, W.heap[k]? = some (.cells cells 5 (0, 0))) → True ∧ some k ≠ v.ownBlock := by
  rintro k ⟨cells, hc⟩
  refine ⟨trivial, fun e => ?_⟩
  obtain ⟨_, inner, ho, _⟩ := h
  obtain ⟨cells', hc'⟩ := own_typed ho k e.symm
  rw [hc'] at hc
  cases hc
theorem own_ty {W : World} {base : Nat} {v : Value} {xs : List (List Int)} (h : Kd.R kRow 42 W base (fun _ => True) v xs) : ∀ k, v.ownBlock = some k → ∃ cells, W.heap[k]? = some (.cells cells 42 (0, 0)) := by
  obtain ⟨_, inner, ho, _⟩ := h
  exact fun k e => own_typed ho k e
def cntD (s d i : Nat) : Nat := min (i + d - s) d
theorem where_data (t : List Nd) (hone : ∀ x ∈ t, oneB x = true) {k : Nat} (hk : k < t.length) (s d : Nat) (hs : s = (bodyB (t.take (k + 1))).length) (hd : d = manyB t[k].f7.size) {i : Nat} (hi : i < (bodyB t ++ zeroB).length) :
    ((whereT t true i).1 = (k : Int) ∧ (whereT t true i).2 = (cntD s d i : Int) ∧ cntD s d (i + 1) = cntD s d i + 1 ∧ cntD s d i < (cutL t[k].f7).length ∧ (bodyB t ++ zeroB).getD i [] = (cutL t[k].f7).getD (cntD s d i) []) ∨
    (((whereT t true i).1 ≠ (k : Int) ∨ (whereT t true i).2 = -1) ∧ cntD s d (i + 1) = cntD s d i) := by
  have hzl : zeroB.length = 2 := rfl
  rw [List.length_append, hzl] at hi
  have hmT : manyT t true = (bodyB t).length + 2 := by unfold manyT; rw [if_pos rfl]
  have e0 : ¬ ((i : Int) < 0 ∨ (i : Int) ≥ (manyT t true : Int)) := by rw [hmT]; rintro (h | h) <;> omega
  have hle := bodyB_take_le t (k + 1)
  have hst := starts_step t hk
  have hel := entryB_length (oneB_facts (hone _ (List.getElem_mem hk)))
  by_cases h3 : (bodyB t).length ≤ i
  · right
    refine ⟨.inl ?_, by unfold cntD; omega⟩
    unfold whereT
    rw [if_neg e0, in_zero t i h3, if_pos (by decide)]
    simp only
    omega
  · obtain ⟨k', hk', h1, h2, hix⟩ := in_body t i (by omega)
    have e5 : t.getD ((k' : Int) + 1 - 1).toNat zNode = t[k'] := by rw [show ((k' : Int) + 1 - 1).toNat = k' by omega, List.getD_eq_getElem?_getD, List.getElem?_eq_getElem hk']; rfl
    have e6 : rd (startsL t) ((k' : Int) + 1) = ((bodyB (t.take (k' + 1))).length : Int) := startsL_rd t (k := k' + 1) (by omega)
    have hwv : whereT t true i = ((k' : Int), if -1 < (i : Int) - ((bodyB (t.take (k' + 1))).length : Int) + (manyB t[k'].f7.size : Int) then (i : Int) - ((bodyB (t.take (k' + 1))).length : Int) + (manyB t[k'].f7.size : Int) else -1) := by
      unfold whereT
      rw [if_neg e0, hix, if_neg (by omega), e5, e6]
      congr 1
      omega
    by_cases hkk : k' = k
    · subst hkk
      rw [hwv]
      simp only
      rw [← hs, ← hd]
      by_cases hj : -1 < (i : Int) - (s : Int) + (d : Int)
      · left
        have hc : cntD s d i = i + d - s := by unfold cntD; omega
        obtain ⟨g1, g2⟩ := data_block t hone hk h1 h2 (cntD s d i) (by rw [← hs, ← hd]; omega)
        rw [if_pos hj]
        refine ⟨trivial, ?_, ?_, g1, g2⟩
        · rw [hc]; omega
        · rw [hc]; unfold cntD; omega
      · right
        rw [if_neg hj]
        exact ⟨.inr rfl, by unfold cntD; omega⟩
    · right
      rw [hwv]
      simp only
      refine ⟨.inl (by omega), ?_⟩
      rcases Nat.lt_or_ge k' k with hlt | hge
      · have := starts_mono t (k - (k' + 1)) (k' + 1) (by omega)
        rw [show k' + 1 + (k - (k' + 1)) = k by omega] at this
        unfold cntD
        omega
      · have := starts_mono t (k' - (k + 1)) (k + 1) (by omega)
        rw [show k + 1 + (k' - (k + 1)) = k' by omega] at this
        unfold cntD
        omega
set_option maxHeartbeats 3200000 in
set_option maxRecDepth 100000 in
theorem reelkeeperlaw08_StreamData.calls (k : Nat) (A0 : Option Addr) (c0 : Nat) (l0 : List Nd) (a1 : Int) (r : Bool) (w : World) (hr0 : Kd.C kNode w A0 l0.length l0) (hc0 : l0.length ≤ c0) (h : reelkeeperlaw08_StreamData.f k l0 a1 = some r) :
    Calls Try.prog 11 #[.slice A0 l0.length c0, .int .i64 a1] w fun e w' => e = .returned (.bool r) ∧ Below w.heap.size w w' := by
  obtain rfl : true = r := Option.some.inj h
  clear h k
  have hup := fun W => awake8.at_ W
  obtain ⟨kf, hkf⟩ := Ev.rounds (few_ev l0)
  have hfew := fun W hC => reelkeeperlaw06_Few.calls kf A0 c0 l0 _ W hC hc0 hkf
  have HB := Aside0.mk (Below.refl w.heap.size w)
  have HC := Aside0.mk hr0
  have hlm : l0.length ≤ 9223372036854775807 := hr0.2.1
  clear hkf hr0
  cases hf : fewL l0 with
  | false =>
    rw [hf] at hfew
    clear hf
    go_enter Try.func11, Try.ntmps11
    go_wp2_with (first | (go_at_call 40; refine (hup _).mono ?_; rintro e wq ⟨rfl, hb⟩; have HBq := Aside0.mk (below_step (by repeat (first | exact HB.out | apply below_alloc | apply pw_below_drewN | apply below_drew1)) hb); have HCq := Aside0.mk (Kd.C_below (by repeat (first | exact HC.out | apply Kd.C_alloc | apply Kd.C_drewN | apply Kd.C_drew)) hb); clear HB HC  hb; have HB := HBq; have HC := HCq; clear HBq HCq ) | (go_at_call 41; refine (hfew _ (by repeat (first | exact HC.out | apply Kd.C_alloc | apply Kd.C_drewN | apply Kd.C_drew))).mono ?_; rintro e wq ⟨rfl, hb⟩; have HBq := Aside0.mk (below_step (by repeat (first | exact HB.out | apply below_alloc | apply pw_below_drewN | apply below_drew1)) hb); have HCq := Aside0.mk (Kd.C_below (by repeat (first | exact HC.out | apply Kd.C_alloc | apply Kd.C_drewN | apply Kd.C_drew)) hb); clear HB HC  hb; have HB := HBq; have HC := HCq; clear HBq HCq ))
    go_ret
    exact ⟨rfl, HB.out⟩
  | true =>
    rw [hf] at hfew
    obtain ⟨hl, hok⟩ := fewL_iff.1 hf
    obtain ⟨km, hkm⟩ := Ev.rounds (may_ev hok)
    have hmay := fun W hC => tree_May.calls km A0 c0 l0 _ W hC hc0 hkm
    clear hf
    cases hm : mayF l0 with
    | false =>
      rw [hm] at hmay
      clear hm hkm
      go_enter Try.func11, Try.ntmps11
      go_wp2_with (first | (go_at_call 40; refine (hup _).mono ?_; rintro e wq ⟨rfl, hb⟩; have HBq := Aside0.mk (below_step (by repeat (first | exact HB.out | apply below_alloc | apply pw_below_drewN | apply below_drew1)) hb); have HCq := Aside0.mk (Kd.C_below (by repeat (first | exact HC.out | apply Kd.C_alloc | apply Kd.C_drewN | apply Kd.C_drew)) hb); clear HB HC  hb; have HB := HBq; have HC := HCq; clear HBq HCq ) | (go_at_call 41; refine (hfew _ (by repeat (first | exact HC.out | apply Kd.C_alloc | apply Kd.C_drewN | apply Kd.C_drew))).mono ?_; rintro e wq ⟨rfl, hb⟩; have HBq := Aside0.mk (below_step (by repeat (first | exact HB.out | apply below_alloc | apply pw_below_drewN | apply below_drew1)) hb); have HCq := Aside0.mk (Kd.C_below (by repeat (first | exact HC.out | apply Kd.C_alloc | apply Kd.C_drewN | apply Kd.C_drew)) hb); clear HB HC  hb; have HB := HBq; have HC := HCq; clear HBq HCq ) | (go_at_call 42; refine (hmay _ (by repeat (first | exact HC.out | apply Kd.C_alloc | apply Kd.C_drewN | apply Kd.C_drew))).mono ?_; rintro e wq ⟨rfl, hb⟩; have HBq := Aside0.mk (below_step (by repeat (first | exact HB.out | apply below_alloc | apply pw_below_drewN | apply below_drew1)) hb); have HCq := Aside0.mk (Kd.C_below (by repeat (first | exact HC.out | apply Kd.C_alloc | apply Kd.C_drewN | apply Kd.C_drew)) hb); clear HB HC  hb; have HB := HBq; have HC := HCq; clear HBq HCq ))
      go_ret
      exact ⟨rfl, HB.out⟩
    | true =>
      rw [hm] at hmay hkm
      obtain ⟨h20, hone⟩ := mayF_facts hok hm
      have hfacts : true = true → l0.length ≤ 20 ∧ ∀ x ∈ l0, oneB x = true := fun _ => ⟨h20, hone⟩
      have HONE := Aside0.mk hone
      clear hm
      by_cases h1 : a1 < 0
      · have h1d := decide_eq_true h1
        clear hfacts hkm hone h1
        go_enter Try.func11, Try.ntmps11
        go_wp2_with (first | (go_at_call 40; refine (hup _).mono ?_; rintro e wq ⟨rfl, hb⟩; have HBq := Aside0.mk (below_step (by repeat (first | exact HB.out | apply below_alloc | apply pw_below_drewN | apply below_drew1)) hb); have HCq := Aside0.mk (Kd.C_below (by repeat (first | exact HC.out | apply Kd.C_alloc | apply Kd.C_drewN | apply Kd.C_drew)) hb); clear HB HC  hb; have HB := HBq; have HC := HCq; clear HBq HCq ) | (go_at_call 41; refine (hfew _ (by repeat (first | exact HC.out | apply Kd.C_alloc | apply Kd.C_drewN | apply Kd.C_drew))).mono ?_; rintro e wq ⟨rfl, hb⟩; have HBq := Aside0.mk (below_step (by repeat (first | exact HB.out | apply below_alloc | apply pw_below_drewN | apply below_drew1)) hb); have HCq := Aside0.mk (Kd.C_below (by repeat (first | exact HC.out | apply Kd.C_alloc | apply Kd.C_drewN | apply Kd.C_drew)) hb); clear HB HC  hb; have HB := HBq; have HC := HCq; clear HBq HCq ) | (go_at_call 42; refine (hmay _ (by repeat (first | exact HC.out | apply Kd.C_alloc | apply Kd.C_drewN | apply Kd.C_drew))).mono ?_; rintro e wq ⟨rfl, hb⟩; have HBq := Aside0.mk (below_step (by repeat (first | exact HB.out | apply below_alloc | apply pw_below_drewN | apply below_drew1)) hb); have HCq := Aside0.mk (Kd.C_below (by repeat (first | exact HC.out | apply Kd.C_alloc | apply Kd.C_drewN | apply Kd.C_drew)) hb); clear HB HC  hb; have HB := HBq; have HC := HCq; clear HBq HCq ))
        go_ret
        exact ⟨rfl, HB.out⟩
      by_cases h2 : (l0.length : Int) ≤ a1
      · have h1d := decide_eq_false h1
        have h2d := decide_eq_true h2
        clear hfacts hkm hone h1 h2
        go_enter Try.func11, Try.ntmps11
        go_wp2_with (first | (go_at_call 40; refine (hup _).mono ?_; rintro e wq ⟨rfl, hb⟩; have HBq := Aside0.mk (below_step (by repeat (first | exact HB.out | apply below_alloc | apply pw_below_drewN | apply below_drew1)) hb); have HCq := Aside0.mk (Kd.C_below (by repeat (first | exact HC.out | apply Kd.C_alloc | apply Kd.C_drewN | apply Kd.C_drew)) hb); clear HB HC  hb; have HB := HBq; have HC := HCq; clear HBq HCq ) | (go_at_call 41; refine (hfew _ (by repeat (first | exact HC.out | apply Kd.C_alloc | apply Kd.C_drewN | apply Kd.C_drew))).mono ?_; rintro e wq ⟨rfl, hb⟩; have HBq := Aside0.mk (below_step (by repeat (first | exact HB.out | apply below_alloc | apply pw_below_drewN | apply below_drew1)) hb); have HCq := Aside0.mk (Kd.C_below (by repeat (first | exact HC.out | apply Kd.C_alloc | apply Kd.C_drewN | apply Kd.C_drew)) hb); clear HB HC  hb; have HB := HBq; have HC := HCq; clear HBq HCq ) | (go_at_call 42; refine (hmay _ (by repeat (first | exact HC.out | apply Kd.C_alloc | apply Kd.C_drewN | apply Kd.C_drew))).mono ?_; rintro e wq ⟨rfl, hb⟩; have HBq := Aside0.mk (below_step (by repeat (first | exact HB.out | apply below_alloc | apply pw_below_drewN | apply below_drew1)) hb); have HCq := Aside0.mk (Kd.C_below (by repeat (first | exact HC.out | apply Kd.C_alloc | apply Kd.C_drewN | apply Kd.C_drew)) hb); clear HB HC  hb; have HB := HBq; have HC := HCq; clear HBq HCq ))
        go_ret
        exact ⟨rfl, HB.out⟩
      obtain ⟨k, rfl⟩ : ∃ k : Nat, a1 = (k : Int) := ⟨a1.toNat, by omega⟩
      have hk : k < l0.length := by omega
      obtain ⟨s, hs⟩ : ∃ s, s = (bodyB (l0.take (k + 1))).length := ⟨_, rfl⟩
      obtain ⟨d, hd⟩ : ∃ d, d = manyB l0[k].f7.size := ⟨_, rfl⟩
      obtain ⟨L, hL⟩ : ∃ L, bodyB l0 ++ zeroB = L := ⟨_, rfl⟩
      obtain ⟨nL, hnL⟩ : ∃ nL, L.length = nL := ⟨_, rfl⟩
      obtain ⟨cu, hcu⟩ : ∃ cu, cutL l0[k].f7 = cu := ⟨_, rfl⟩
      have hwd := fun (i : Nat) (hi : i < (bodyB l0 ++ zeroB).length) => where_data l0 hone hk s d hs hd hi
      rw [hL, hcu, hnL] at hwd
      have hbf := bodyB_few l0 (fun n hn => oneB_facts (hone n hn))
      have hle := bodyB_take_le l0 (k + 1)
      have hLl : nL = (bodyB l0).length + 2 := by rw [← hnL, ← hL, List.length_append]; rfl
      have hst := starts_step l0 hk
      have hel := entryB_length (oneB_facts (hone _ (List.getElem_mem hk)))
      have hcl : cu.length = d := by rw [← hcu, cut_len (oneB_facts (hone _ (List.getElem_mem hk))), hd]
      have hcz : cntD s d 0 = 0 := by unfold cntD; omega
      have hcn : cntD s d nL = d := by unfold cntD; omega
      have hcle : ∀ i, cntD s d i ≤ d := fun i => by unfold cntD; omega
      have htx := textL_cut l0[k].f7
      have hsz := (oneB_facts (hone _ (List.getElem_mem hk))).data
      have hdf := data_one (hone _ (List.getElem_mem hk))
      rw [← hd] at hdf
      have hall : ∀ W, Kd.C kNode W A0 l0.length l0 → Calls Try.prog 43 #[.slice A0 l0.length c0] W fun e w' => (∃ A c, e = .returned (.tuple #[.slice A nL c, .bool true]) ∧ nL ≤ c ∧ Aside0 (Kd.R kRow 42 w' W.heap.size (fun _ => True) (.slice A nL c) L)) ∧ Below W.heap.size W w' := fun W hC => (stream_All.at_ l0 km true hkm hfacts A0 c0 W hC hc0).mono (by
        rintro e w' ⟨v, rfl, hR, hB⟩
        rw [if_pos rfl, hL] at hR
        obtain ⟨A, c, rfl, hcc, _⟩ := Kd.R_reads hR
        rw [hnL] at hR hcc ⊢
        exact ⟨⟨A, c, rfl, hcc, ⟨hR⟩⟩, hB⟩)
      have hwh : ∀ (i : Int) (W : World), Kd.C kNode W A0 l0.length l0 → Calls Try.prog 44 #[.slice A0 l0.length c0, .int .i64 i] W fun e w' => e = .returned (.tuple #[.int .i64 (whereT l0 true i).1, .int .i64 (whereT l0 true i).2]) ∧ Below W.heap.size W w' := fun i W hC => stream_Where.at_ l0 i km true hkm hfacts A0 c0 W hC hc0
      have hk0 : (0 : Int) ≤ (k : Int) := by omega
      have hk1 : (k : Int) < (l0.length : Int) := by omega
      have h1d : decide ((k : Int) < 0) = false := decide_eq_false (by omega)
      have h2d : decide ((l0.length : Int) ≤ (k : Int)) = false := decide_eq_false (by omega)
      have h2n : decide (l0.length ≤ k) = false := decide_eq_false (by omega)
      have HWD := Aside0.mk hwd
      have hcfl : cu.flatten.length = 512 * d := by
        rw [flat_blocks (blocksOk_of (fun x hx => by rw [← hcu, cutL_eq] at hx; exact (cutB_length _ _ rfl).2 x hx)), hcl]
      have HFL := Aside0.mk hcfl
      have HNL := Aside0.mk hnL
      have HCL := Aside0.mk hcl
      have HC0 := Aside0.mk hcz
      have HCN := Aside0.mk hcn
      have HCE := Aside0.mk hcle
      have HNB := Aside0.mk (show nL ≤ 262 by omega)
      have HDB := Aside0.mk (show d ≤ 8 by rw [hd]; unfold manyB; omega)
      have HN := Aside0.mk (List.getElem?_eq_getElem hk)
      have HCW := HC
      generalize hx : l0[k] = x at *
      have HTX := Aside0.mk htx
      have HCU := Aside0.mk (show cutL x.f7 = cu from hcu)
      obtain ⟨f0, f1_, f2_, f3_, f4_, f5_, f6_, f7⟩ := x
      simp only at hdf
      have hdata := fun W => entry_Data.calls f0 f1_ f2_ f3_ f4_ f5_ f6_ f7 (d : Int) W hdf
      clear hfacts hkm hone h1 h2 hL hnL hs hd hcu hwd hbf hle hLl hst hel hcl hcz hcn hcle htx hdf hok hx
      go_enter Try.func11, Try.ntmps11
      go_wp2_with (first | (go_at_call 40; refine (hup _).mono ?_; rintro e wq ⟨rfl, hb⟩; have HBq := Aside0.mk (below_step (by repeat (first | exact HB.out | apply below_alloc | apply pw_below_drewN | apply below_drew1)) hb); have HCq := Aside0.mk (Kd.C_below (by repeat (first | exact HC.out | apply Kd.C_alloc | apply Kd.C_drewN | apply Kd.C_drew)) hb); clear HB HC  hb; have HB := HBq; have HC := HCq; clear HBq HCq ) | (go_at_call 41; refine (hfew _ (by repeat (first | exact HC.out | apply Kd.C_alloc | apply Kd.C_drewN | apply Kd.C_drew))).mono ?_; rintro e wq ⟨rfl, hb⟩; have HBq := Aside0.mk (below_step (by repeat (first | exact HB.out | apply below_alloc | apply pw_below_drewN | apply below_drew1)) hb); have HCq := Aside0.mk (Kd.C_below (by repeat (first | exact HC.out | apply Kd.C_alloc | apply Kd.C_drewN | apply Kd.C_drew)) hb); clear HB HC  hb; have HB := HBq; have HC := HCq; clear HBq HCq ) | (go_at_call 42; refine (hmay _ (by repeat (first | exact HC.out | apply Kd.C_alloc | apply Kd.C_drewN | apply Kd.C_drew))).mono ?_; rintro e wq ⟨rfl, hb⟩; have HBq := Aside0.mk (below_step (by repeat (first | exact HB.out | apply below_alloc | apply pw_below_drewN | apply below_drew1)) hb); have HCq := Aside0.mk (Kd.C_below (by repeat (first | exact HC.out | apply Kd.C_alloc | apply Kd.C_drewN | apply Kd.C_drew)) hb); clear HB HC  hb; have HB := HBq; have HC := HCq; clear HBq HCq ) | (go_at_call 43; refine (hall _ (by repeat (first | exact HC.out | apply Kd.C_alloc | apply Kd.C_drewN | apply Kd.C_drew))).mono ?_; rintro e wq ⟨⟨AL, cL, rfl, hcL, HL0⟩, hb⟩; have HBq := Aside0.mk (below_step (by repeat (first | exact HB.out | apply below_alloc | apply pw_below_drewN | apply below_drew1)) hb); have HCq := Aside0.mk (Kd.C_below (by repeat (first | exact HC.out | apply Kd.C_alloc | apply Kd.C_drewN | apply Kd.C_drew)) hb); have HL := Aside0.mk (Kd.R_lower HL0.out HB.out.size); clear HL0; clear HB HC hb; have HB := HBq; have HC := HCq; clear HBq HCq))
      go_loopw [9, 10] (fun v9 v10 wr => ∃ i : Nat, v10 = .int .i64 i ∧ i ≤ nL ∧ (∃ A c, v9 = .slice A (cntD s d i) c) ∧ Aside0 (Below w.heap.size w wr) ∧ Aside0 (Kd.R kRow 42 wr w.heap.size (fun _ => True) (.slice AL nL cL) L) ∧ Aside0 (Kd.R kRow 42 wr w.heap.size (fun _ => True) v9 (cu.take (cntD s d i))) ∧ Aside0 (v9.ownBlock = none ∨ v9.ownBlock ≠ (Value.slice AL nL cL).ownBlock)) (fun _ v10 _ => nL - (intOf v10).toNat)
      case atStart => exact ⟨0, rfl, Nat.zero_le _, ⟨none, 0, by rw [HC0.out]⟩, HB, HL, ⟨by rw [HC0.out]; exact Kd.R_nil _ _ _ _ _⟩, ⟨.inl rfl⟩⟩
      case round =>
        obtain ⟨i, rfl, hi, ⟨A9, c9, rfl⟩, HBn, HLn, HO, HAP⟩ := hrel
        clear HB HC HL
        have HB := HBn
        have HL := HLn
        have HC := Aside0.mk (Kd.C_below HCW.out HB.out)
        clear HBn HLn
        by_cases hlt : i < nL
        · have hi0 : (0 : Int) ≤ (i : Int) := by omega
          have hi1 : (i : Int) < (nL : Int) := by omega
          have hNB := HNB.out
          have g2 : IntKind.i64.wrap ((i : Int) + 1) = ((i + 1 : Nat) : Int) := by rw [i64_w, wrap_id (by omega) (by omega)]; omega
          rcases HWD.out i hlt with ⟨p1, p2, p3, p4, p5⟩ | ⟨p1, p2⟩
          · have hwi := hwh (i : Int)
            rw [p1, p2] at hwi
            have hce := HCE.out i
            have hDB := HDB.out
            obtain ⟨q, hq⟩ : ∃ q, cntD s d i = q := ⟨_, rfl⟩
            rw [hq] at hwi HO HAP p3 p4 p5 hce ⊢
            have HMN := Aside0.mk (show min q cu.length = q by omega)
            have P3 := Aside0.mk p3
            have P4 := Aside0.mk p4
            have P5 := Aside0.mk p5
            have hq0 : (0 : Int) ≤ (q : Int) := by omega
            have hq1 : ((q : Int) == (q : Int)) = true := beq_self_eq_true _
            clear p1 p2 p3 p4 p5 hq hNB
            go_upto_region 14 with (first | (go_at_call 44; refine (hwi _ (by repeat (first | exact HC.out | apply Kd.C_alloc | apply Kd.C_drewN | apply Kd.C_drew))).mono ?_; rintro e wq ⟨rfl, hb⟩; have HBq := Aside0.mk (below_step (by repeat (first | exact HB.out | apply below_alloc | apply pw_below_drewN | apply below_drew1)) hb); have HCq := Aside0.mk (Kd.C_below (by repeat (first | exact HC.out | apply Kd.C_alloc | apply Kd.C_drewN | apply Kd.C_drew)) hb); have HLq := Aside0.mk (Kd.R_below (by repeat (first | exact HL.out | apply Kd.R_alloc | apply Kd.R_drewN)) hb); have HOq := Aside0.mk (Kd.R_below (by repeat (first | exact HO.out | apply Kd.R_alloc | apply Kd.R_drewN)) hb); clear HB HC HL HO hb; have HB := HBq; have HC := HCq; have HL := HLq; have HO := HOq; clear HBq HCq HLq HOq))
            obtain ⟨ad, cc, B, dd, hv, hx, hxd, hM⟩ := R_elem HL.out i (by rw [HNL.out]; exact hlt)
            injection hv with hv1 hv2 hv3
            subst hv1
            have hxe : rdR L i = cu.getD q [] := P5.out
            generalize rdR L i = x at hx hxd hM hxe
            have HM := Aside0.mk hM
            have HXE := Aside0.mk hxe
            clear hM hxe hxd hce hv2 hv3
            go_wp2_with (at_builtin; refine Kd.R_append kRow (w0 := w) (W := wq) w.heap.size rfl (.tmp 68) (.tmp 73) 30 42 (.slice none 0 0) 24 rfl Try.underlying30 info42 rfl (by decide) (by decide) (.slice A9 q c9) (cu.take q) x [.slice B x.length dd] (fun _ => True) (fun k => ∃ cells, wq.heap[k]? = some (.cells cells 5 (0, 0))) rfl rfl HM.out (okp_own HO.out) (fun _ _ => trivial) HO.out HB.out HB.out.size (by have h1_ := HCL.out; have h2_ := HDB.out; rw [List.length_take]; omega) ?_; intro v1 w1 hR1 hB1 hg1 hat1; obtain ⟨A1, c1, rfl⟩ := Kd.R_slice hR1)
            have hr : cu.take q ++ [x] = cu.take (q + 1) := by
              have h_ := P4.out
              rw [List.take_succ_eq_append_getElem h_, HXE.out, List.getD_eq_getElem?_getD, List.getElem?_eq_getElem h_]
              rfl
            have hlq : (cu.take q ++ [x]).length = q + 1 := by
              have h_ := P4.out
              rw [List.length_append, List.length_take, List.length_singleton]; omega
            rw [hlq] at hR1
            rw [hr] at hR1
            have HOn := Aside0.mk hR1
            have hne : (Value.slice (some ad) nL cL).ownBlock = none ∨ (Value.slice (some ad) nL cL).ownBlock ≠ (Value.slice A9 q c9).ownBlock := by
              rcases HAP.out with h_ | h_
              · rw [h_]; exact .inr (by simp [Value.ownBlock])
              · exact .inr (Ne.symm h_)
            have HLn := Aside0.mk (R_far HL.out hg1 hne (own_ty HO.out))
            have HAPn : Aside0 ((Value.slice A1 (q + 1) c1).ownBlock = none ∨ (Value.slice A1 (q + 1) c1).ownBlock ≠ (Value.slice (some ad) nL cL).ownBlock) := ⟨by
              have hltb := Kd.R_lt HL.out
              rcases hat1 with h_ | ⟨b, h_, hb_⟩
              · rw [hlq] at h_
                rw [h_]; exact HAP.out
              · rw [hlq] at h_
                rw [h_]
                exact .inr (fun e => by have := hltb b e.symm; omega)⟩
            have HBn := Aside0.mk hB1
            clear HB HL HO HAP hR1 hg1 hat1 hB1 hne hr hlq hx HC
            go_wp2_with (fail)
            go_roundw
            case rel => simp only [HMN.out]; exact ⟨i + 1, by go_num, by omega, ⟨A1, c1, by rw [P3.out]⟩, HBn, HLn, ⟨by rw [P3.out]; exact HOn.out⟩, HAPn⟩
            case measure => simp [intOf]; omega
          · have hwi := hwh (i : Int)
            generalize whereT l0 true (i : Int) = pq at hwi p1
            obtain ⟨p, q⟩ := pq
            simp only at p1 hwi
            have P2 := Aside0.mk p2
            generalize cntD s d i = cn at *
            clear p2 hNB
            rcases p1 with p1 | p1
            · have hf : (p == (k : Int)) = false := beq_eq_false_iff_ne.2 p1
              clear p1
              go_wp2_with (first | (go_at_call 44; refine (hwi _ (by repeat (first | exact HC.out | apply Kd.C_alloc | apply Kd.C_drewN | apply Kd.C_drew))).mono ?_; rintro e wq ⟨rfl, hb⟩; have HBq := Aside0.mk (below_step (by repeat (first | exact HB.out | apply below_alloc | apply pw_below_drewN | apply below_drew1)) hb); have HCq := Aside0.mk (Kd.C_below (by repeat (first | exact HC.out | apply Kd.C_alloc | apply Kd.C_drewN | apply Kd.C_drew)) hb); have HLq := Aside0.mk (Kd.R_below (by repeat (first | exact HL.out | apply Kd.R_alloc | apply Kd.R_drewN)) hb); have HOq := Aside0.mk (Kd.R_below (by repeat (first | exact HO.out | apply Kd.R_alloc | apply Kd.R_drewN)) hb); clear HB HC HL HO hb; have HB := HBq; have HC := HCq; have HL := HLq; have HO := HOq; clear HBq HCq HLq HOq))
              go_roundw
              case rel => exact ⟨i + 1, by go_num, by omega, ⟨A9, c9, by rw [P2.out]⟩, HB, HL, ⟨by rw [P2.out]; exact HO.out⟩, HAP⟩
              case measure => simp [intOf]; omega
            · subst p1
              by_cases hf : p = (k : Int)
              · subst hf
                go_wp2_with (first | (go_at_call 44; refine (hwi _ (by repeat (first | exact HC.out | apply Kd.C_alloc | apply Kd.C_drewN | apply Kd.C_drew))).mono ?_; rintro e wq ⟨rfl, hb⟩; have HBq := Aside0.mk (below_step (by repeat (first | exact HB.out | apply below_alloc | apply pw_below_drewN | apply below_drew1)) hb); have HCq := Aside0.mk (Kd.C_below (by repeat (first | exact HC.out | apply Kd.C_alloc | apply Kd.C_drewN | apply Kd.C_drew)) hb); have HLq := Aside0.mk (Kd.R_below (by repeat (first | exact HL.out | apply Kd.R_alloc | apply Kd.R_drewN)) hb); have HOq := Aside0.mk (Kd.R_below (by repeat (first | exact HO.out | apply Kd.R_alloc | apply Kd.R_drewN)) hb); clear HB HC HL HO hb; have HB := HBq; have HC := HCq; have HL := HLq; have HO := HOq; clear HBq HCq HLq HOq))
                go_roundw
                case rel => exact ⟨i + 1, by go_num, by omega, ⟨A9, c9, by rw [P2.out]⟩, HB, HL, ⟨by rw [P2.out]; exact HO.out⟩, HAP⟩
                case measure => simp [intOf]; omega
              · have hf2 : (p == (k : Int)) = false := beq_eq_false_iff_ne.2 hf
                go_wp2_with (first | (go_at_call 44; refine (hwi _ (by repeat (first | exact HC.out | apply Kd.C_alloc | apply Kd.C_drewN | apply Kd.C_drew))).mono ?_; rintro e wq ⟨rfl, hb⟩; have HBq := Aside0.mk (below_step (by repeat (first | exact HB.out | apply below_alloc | apply pw_below_drewN | apply below_drew1)) hb); have HCq := Aside0.mk (Kd.C_below (by repeat (first | exact HC.out | apply Kd.C_alloc | apply Kd.C_drewN | apply Kd.C_drew)) hb); have HLq := Aside0.mk (Kd.R_below (by repeat (first | exact HL.out | apply Kd.R_alloc | apply Kd.R_drewN)) hb); have HOq := Aside0.mk (Kd.R_below (by repeat (first | exact HO.out | apply Kd.R_alloc | apply Kd.R_drewN)) hb); clear HB HC HL HO hb; have HB := HBq; have HC := HCq; have HL := HLq; have HO := HOq; clear HBq HCq HLq HOq))
                go_roundw
                case rel => exact ⟨i + 1, by go_num, by omega, ⟨A9, c9, by rw [P2.out]⟩, HB, HL, ⟨by rw [P2.out]; exact HO.out⟩, HAP⟩
                case measure => simp [intOf]; omega
        · have e_ : nL = i := by omega
          subst e_
          have hcn := HCN.out
          rw [hcn] at HO ⊢
          have hcut : cu.take d = cu := by rw [← HCL.out]; exact List.take_length
          rw [hcut] at HO
          have hl2 : cu.length = d := HCL.out
          clear hcut hcn hlt HL HAP
          have HR := Aside0.mk (Kd.R_reads' HO.out)
          have HDL := Aside0.mk hl2
          have hDB := HDB.out
          clear hl2
          go_wp2_with (fail)
          go_loop [13, 14] (fun v13 v14 => ∃ j : Nat, v14 = .int .i64 j ∧ j ≤ d ∧ v13 = .string (strOfNums (cu.take j).flatten)) (fun _ v14 => d - (intOf v14).toNat)
          case atStart => exact ⟨0, rfl, Nat.zero_le _, rfl⟩
          case round =>
            obtain ⟨j, rfl, hj, rfl⟩ := hrel
            by_cases hjd : j < d
            · obtain ⟨adU, B, dd, rfl, hx, _, hc⟩ := at_row HR.out.2.2 j (by rw [HDL.out]; exact hjd)
              have hcv := Kd.C_string (P := Try.prog) (A := B) (c := dd) Try.underlying42 Try.underlying5 Try.underlying9 hc
              have htk : (cu.take (j + 1)).flatten = (cu.take j).flatten ++ rdR cu j := flat_snoc cu (by rw [HDL.out]; exact hjd)
              have HTK := Aside0.mk htk
              have hj0 : (0 : Int) ≤ (j : Int) := by omega
              have hj1 : (j : Int) < (d : Int) := by omega
              have g2 : IntKind.i64.wrap ((j : Int) + 1) = ((j + 1 : Nat) : Int) := by rw [i64_w, wrap_id (by omega) (by omega)]; omega
              have hfl := flat_le cu (j + 1)
              rw [htk, List.length_append, HFL.out] at hfl
              have hz1 : (strOfNums (cu.take j).flatten).size + (strOfNums (rdR cu j)).size ≤ 9223372036854775807 := by rw [strOfNums_size, strOfNums_size]; omega
              have hz2 : ¬ (9223372036854775807 < (strOfNums (cu.take j).flatten).size + (strOfNums (rdR cu j)).size) := by omega
              clear hfl
              generalize rdR cu j = x at hx hc hcv HTK hz1 hz2
              clear hc htk
              go_wp2_with (fail)
              go_round
              case rel => exact ⟨j + 1, by go_num, by omega, by rw [HTK.out, strOfNums_append]⟩
              case measure => simp [intOf]; omega
            · have e_ : d = j := by omega
              subst e_
              have hct : cu.take d = cu := by rw [← HDL.out]; exact List.take_length
              rw [hct]
              have hfs : (strOfNums cu.flatten).size = 512 * d := by rw [strOfNums_size, HFL.out]
              have hdm : d = manyB f7.size := by rw [← HDL.out, ← HCU.out, cutL_length]
              have hex : (strOfNums cu.flatten).extract 0 f7.size = f7 := by
                have h_ := HTX.out
                unfold textL at h_
                rw [if_neg (by
                  rintro (h1_ | h1_ | h1_)
                  · omega
                  · rw [blocksOk_of (fun x hx => by rw [cutL_eq] at hx; exact (cutB_length _ _ rfl).2 x hx)] at h1_; cases h1_
                  · rw [Int.toNat_natCast, cutL_length] at h1_; exact h1_ rfl), Int.toNat_natCast] at h_
                rw [← HCU.out]
                exact (Prod.mk.inj h_).1
              have hfz : f7.size ≤ 512 * d := by rw [hdm]; unfold manyB; omega
              generalize strOfNums cu.flatten = S at hfs hex
              obtain ⟨ad, rfl, k0, k1, k2, k3, k4, k5, k6, k7⟩ := node_cells HC.out (List.getElem?_eq_some_iff.1 HN.out).1 _ HN.out
              simp only at k0 k1 k2 k3 k4 k5 k6 k7
              have f1 : ((S.extract 0 f7.size).toList == f7.toList) = true := by rw [hex]; exact beq_self_eq_true _
              have f2 : (f7.toList == f7.toList) = true := beq_self_eq_true _
              have f3 : ((d : Int) == (d : Int)) = true := beq_self_eq_true _
              have f4 : decide ((f7.size : Int) ≤ (S.size : Int)) = true := decide_eq_true (by omega)
              have f5 : decide (f7.size ≤ S.size) = true := decide_eq_true (by omega)
              have f6 : f7.size ≤ S.size := by omega
              clear hct hdm hfz hfs
              go_upto_region 20 with (fail)
              go_region_held3 (fun w' => w'.cell? (ad.add (k * 8)) = some (.string f0) ∧ w'.cell? ⟨(ad.add (k * 8)).block, (ad.add (k * 8)).off + 1, none⟩ = some (.string f1_) ∧ w'.cell? ⟨(ad.add (k * 8)).block, (ad.add (k * 8)).off + 2, none⟩ = some (.int .u8 f2_) ∧ w'.cell? ⟨(ad.add (k * 8)).block, (ad.add (k * 8)).off + 3, none⟩ = some (.int .i64 f3_) ∧ w'.cell? ⟨(ad.add (k * 8)).block, (ad.add (k * 8)).off + 4, none⟩ = some (.int .i64 f4_) ∧ w'.cell? ⟨(ad.add (k * 8)).block, (ad.add (k * 8)).off + 5, none⟩ = some (.int .i64 f5_) ∧ w'.cell? ⟨(ad.add (k * 8)).block, (ad.add (k * 8)).off + 6, none⟩ = some (.int .i64 f6_) ∧ w'.cell? ⟨(ad.add (k * 8)).block, (ad.add (k * 8)).off + 7, none⟩ = some (.string f7)) (first | exact ⟨k0, k1, k2, k3, k4, k5, k6, k7⟩ | exact ⟨hbk k0, hbk k1, hbk k2, hbk k3, hbk k4, hbk k5, hbk k6, hbk k7⟩) (first | (go_at_call 30; refine (hdata _).mono ?_; rintro e w3 ⟨rfl, hb3⟩; have HB3 := Aside0.mk (below_step (below_drew1 HB.out) hb3); have hbk := fun {p v} (h : wr.drew.cell? p = some v) => pw_cell_below hb3 h; clear hb3))
              go_wp2_with (fail)
              go_ret
              exact ⟨rfl, HB3.out⟩

end Go.Proofs.Ytlecnodlnkanaaa.X
