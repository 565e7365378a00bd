import Derived.Test.YtoahjigjlgcjkaaXK
import Derived.Test.YtoahjigjlgcjkaaXE23
import Derived.Test.YtoahjigjlgcjkaaXE25
import Derived.Test.YtoahjigjlgcjkaaXGpa
import Derived.Test.YtoahjigjlgcjkaaXGpj
import Derived.Test.YtoahjigjlgcjkaaXGpk
import Derived.Test.YtoahjigjlgcjkaaXGslices
import Derived.Test.YtoahjigjlgcjkaaXreelkeeperlaw05Few
import Derived.Test.YtoahjigjlgcjkaaYAll
import Derived.Test.YtoahjigjlgcjkaaP04g
import Derived.Test.YtoahjigjlgcjkaaP09a
import Derived.Test.YtoahjigjlgcjkaaP09c
import Derived.Test.YtoahjigjlgcjkaaP09n
import Derived.Test.YtoahjigjlgcjkaaP09p
import Derived.Test.YtoahjigjlgcjkaaPGA
import Derived.Test.YtoahjigjlgcjkaaPGE
import Derived.Deep.RegionHeld3
import Derived.Laws.EntriesVeiled
import Derived.WalkSpells
namespace Go.Proofs.Ytoahjigjlgcjkaa.X
open Go.RowKit Go.Proofs.YtoahjigjlgcjkaaW.PrintWords Go.Proofs.YtoahjigjlgcjkaaW.PrintLast Go.Proofs.YtoahjigjlgcjkaaW.PrintMore
attribute [local go_sem] max2_int min2_int max_two min_two
set_option linter.unusedVariables false
set_option linter.unusedSimpArgs false

attribute [local go_sem high] eqA23 eqA25
open Go.Proofs.YtoahjigjlgcjkaaY
set_option maxRecDepth 100000
theorem ev_cellsN {w : World} {A : Option Addr} {n : Nat} {t : List Evt} (h : Kd.C k39 w A n t) {i : Nat} (hi : i < n) (x : Evt) (hx : t[i]? = some x) : ∃ ad, A = some ad ∧ w.cell? (ad.add (i * 10)) = some (.int .i64 x.f0) ∧ w.cell? ⟨(ad.add (i * 10)).block, (ad.add (i * 10)).off + 1, none⟩ = some (.string x.f1.f0) ∧ w.cell? ⟨(ad.add (i * 10)).block, (ad.add (i * 10)).off + 2, none⟩ = some (.string x.f1.f1) ∧ w.cell? ⟨(ad.add (i * 10)).block, (ad.add (i * 10)).off + 3, none⟩ = some (.int .u8 x.f1.f2) ∧ w.cell? ⟨(ad.add (i * 10)).block, (ad.add (i * 10)).off + 4, none⟩ = some (.int .i64 x.f1.f3) ∧ w.cell? ⟨(ad.add (i * 10)).block, (ad.add (i * 10)).off + 5, none⟩ = some (.int .i64 x.f1.f4) ∧ w.cell? ⟨(ad.add (i * 10)).block, (ad.add (i * 10)).off + 6, none⟩ = some (.int .i64 x.f1.f5) ∧ w.cell? ⟨(ad.add (i * 10)).block, (ad.add (i * 10)).off + 7, none⟩ = some (.int .i64 x.f1.f6) ∧ w.cell? ⟨(ad.add (i * 10)).block, (ad.add (i * 10)).off + 8, none⟩ = some (.string x.f1.f7) ∧ w.cell? ⟨(ad.add (i * 10)).block, (ad.add (i * 10)).off + 9, none⟩ = some (.string x.f2) := by
  have h1 := at_T39 h (i : Int) (by omega) (by omega)
  have e : rd_T39 t (i : Int) = x := by unfold rd_T39; rw [Int.toNat_natCast, List.getD_eq_getElem?_getD, hx]; rfl
  rw [e, Int.toNat_natCast] at h1
  exact h1
def reelkeeperlaw09_ParseNode.f (k : Nat) (n : Nd) : Option Bool := some true
theorem ParseNode_told (n : Nd) : ∃ k, reelkeeperlaw09_ParseNode.f k n = some true := ⟨0, rfl⟩
set_option maxHeartbeats 3200000 in
theorem parse_node.at_ (n : Nd) (w : World) :
    Calls Try.prog 7 #[.agg #[.string n.f0, .string n.f1, .int .u8 n.f2, .int .i64 n.f3, .int .i64 n.f4, .int .i64 n.f5, .int .i64 n.f6, .string n.f7]] w fun e w' => e = .returned (.bool true) ∧ Below w.heap.size w w' := by
  have hup := fun W => awake9.at_ W
  have hf5 := fun W => reelkeeperlaw05_Few.calls n.f0 n.f1 n.f2 n.f3 n.f4 n.f5 n.f6 n.f7 _ W (few5 n)
  have HB0 := Aside0.mk (Below.refl w.heap.size w)
  have HB0 := Aside0.mk (below_alloc HB0.out (.cells #[.string n.f0, .string n.f1, .int .u8 n.f2, .int .i64 n.f3, .int .i64 n.f4, .int .i64 n.f5, .int .i64 n.f6, .string n.f7] 23))
  have HN0 := Aside0.mk (heap_alloc_new w (.cells #[.string n.f0, .string n.f1, .int .u8 n.f2, .int .i64 n.f3, .int .i64 n.f4, .int .i64 n.f5, .int .i64 n.f6, .string n.f7] 23))
  obtain ⟨n0_0, n1_0, n2_0, n3_0, n4_0, n5_0, n6_0, n7_0⟩ := cells8 HN0.out
  cases hn : okN n with
  | false =>
    rw [hn] at hf5
    clear hn
    go_enter Try.func7, Try.ntmps7
    go_wp2_with (first | (go_at_call 10; refine (hup _).mono ?_; rintro e_ w1 ⟨rfl, hb_⟩; have HB1 := Aside0.mk (below_step HB0.out hb_); have HN1 := Aside0.mk (blk_below HN0.out hb_); clear hb_ HN0 n0_0 n1_0 n2_0 n3_0 n4_0 n5_0 n6_0 n7_0; obtain ⟨n0_1, n1_1, n2_1, n3_1, n4_1, n5_1, n6_1, n7_1⟩ := cells8 HN1.out) | (go_at_call 20; refine (hf5 _).mono ?_; rintro e_ w2 ⟨rfl, hb_⟩; have HB2 := Aside0.mk (below_step HB1.out hb_); have HN2 := Aside0.mk (blk_below HN1.out hb_); clear hb_ HN1 n0_1 n1_1 n2_1 n3_1 n4_1 n5_1 n6_1 n7_1; obtain ⟨n0_2, n1_2, n2_2, n3_2, n4_2, n5_2, n6_2, n7_2⟩ := cells8 HN2.out))
    go_ret
    exact ⟨rfl, HB2.out⟩
  | true =>
  rw [hn] at hf5
  obtain ⟨g0, g1, -⟩ := okN_iff.1 hn
  clear hn
  cases ho : oneB n with
  | false =>
    have hput := fun W => put9_no (n := n) (by omega) (by omega) ho W
    clear ho
    go_enter Try.func7, Try.ntmps7
    go_wp2_with (first | (go_at_call 10; refine (hup _).mono ?_; rintro e_ w1 ⟨rfl, hb_⟩; have HB1 := Aside0.mk (below_step HB0.out hb_); have HN1 := Aside0.mk (blk_below HN0.out hb_); clear hb_ HN0 n0_0 n1_0 n2_0 n3_0 n4_0 n5_0 n6_0 n7_0; obtain ⟨n0_1, n1_1, n2_1, n3_1, n4_1, n5_1, n6_1, n7_1⟩ := cells8 HN1.out) | (go_at_call 20; refine (hf5 _).mono ?_; rintro e_ w2 ⟨rfl, hb_⟩; have HB2 := Aside0.mk (below_step HB1.out hb_); have HN2 := Aside0.mk (blk_below HN1.out hb_); clear hb_ HN1 n0_1 n1_1 n2_1 n3_1 n4_1 n5_1 n6_1 n7_1; obtain ⟨n0_2, n1_2, n2_2, n3_2, n4_2, n5_2, n6_2, n7_2⟩ := cells8 HN2.out) | (go_at_call 21; refine (hput _).mono ?_; rintro e_ w3 ⟨A3, c3, rfl, hC3, hl3, hb_⟩; have HB3 := Aside0.mk (below_step HB2.out hb_); have HN3 := Aside0.mk (blk_below HN2.out hb_); have HC3 := hC3; have HL3 := hl3; clear hC3 hl3; clear hb_ HN2 n0_2 n1_2 n2_2 n3_2 n4_2 n5_2 n6_2 n7_2; obtain ⟨n0_3, n1_3, n2_3, n3_3, n4_3, n5_3, n6_3, n7_3⟩ := cells8 HN3.out))
    go_ret
    exact ⟨rfl, HB3.out⟩
  | true =>
  have hput := fun W => put9_yes ho W
  have hby := entryB_by (oneB_facts ho)
  have hd4 : n.f7.size ≤ 4000 := (oneB_facts ho).data
  have hlen := entryB_length (oneB_facts ho)
  have hcnt := aheadB_count (oneB_facts ho)
  have hrr := runR_node ho
  obtain ⟨L, hL⟩ : ∃ L, entryB n = L := ⟨_, rfl⟩
  rw [hL] at hput hrr hby hlen
  obtain ⟨nL, hnL⟩ : ∃ k, L.length = k := ⟨_, rfl⟩
  rw [hnL] at hput hrr hlen
  have hn1000 : nL ≤ 1000 := by
    unfold manyB at hlen
    split at hcnt <;> split at hcnt <;> omega
  obtain ⟨ds, hds⟩ : ∃ ds, dataEvs (bytesOf n.f7) = ds := ⟨_, rfl⟩
  have hcat := cat_node n.f7
  have hkind := data_kind _ (bytesOf n.f7) rfl
  rw [hds] at hcat hkind
  obtain ⟨E, hE⟩ : ∃ E, evsOf n = E := ⟨_, rfl⟩
  have hE2 := hE
  unfold evsOf at hE2
  rw [hds] at hE2
  rw [hE] at hrr
  obtain ⟨m, hm⟩ : ∃ k, E.length = k := ⟨_, rfl⟩
  obtain ⟨p, hp⟩ : ∃ p, ds.length + 1 = p := ⟨_, rfl⟩
  have hmp : m = p + 1 := by rw [← hm, ← hE2, List.length_cons, List.length_append, List.length_singleton, hp]
  have hE0 : E[0]? = some (nodeEv n) := by rw [← hE2]; rfl
  have hEp : E[p]? = some evOver := by rw [← hE2, ← hp, List.getElem?_cons_succ, List.getElem?_append_right (Nat.le_refl _), Nat.sub_self]; rfl
  have hEi : ∀ j, j < ds.length → E[j + 1]? = ds[j]? := fun j hj => by rw [← hE2, List.getElem?_cons_succ, List.getElem?_append_left hj]
  have hdl : ds.length ≤ 8 := by
    rw [← hds, data_count _ _ rfl, bytesOf_length]; omega
  have hrun : ∀ (A : Option Addr) (c : Nat) (W : World), Kd.C kRow W A nL L → nL ≤ c → Calls Try.prog 15 #[.agg #[.int .i64 0, .string ⟨#[]⟩, .string ⟨#[]⟩, .int .u8 0, .int .i64 0, .int .i64 0, .int .i64 0, .int .i64 0, .string ⟨#[]⟩, .int .i64 0, .int .i64 0, .string ⟨#[]⟩, .string ⟨#[]⟩, .string ⟨#[]⟩], .slice A nL c] W fun e w' => ∃ A4 c4, e = .returned (.tuple #[.agg #[.int .i64 0, .string ⟨#[]⟩, .string ⟨#[]⟩, .int .u8 0, .int .i64 0, .int .i64 0, .int .i64 0, .int .i64 0, .string ⟨#[]⟩, .int .i64 0, .int .i64 0, .string ⟨#[]⟩, .string ⟨#[]⟩, .string ⟨#[]⟩], .slice A4 m c4, .int .i64 (nL : Int), .int .i64 0]) ∧ Aside0 (Kd.R k39 39 w' W.heap.size (fun _ => True) (.slice A4 m c4) E) ∧ Below W.heap.size W w' := fun A c W hC hc => by
    have h_ := parse_Run.at_ st0 st0_ok A c L (by omega) W (by rw [hnL]; exact hC) (by omega) hby
    rw [hrr] at h_
    unfold RunPost at h_
    simp only at h_
    rw [hm, hnL] at h_
    exact h_
  have b1 : decide ((m : Int) < 2) = false := decide_eq_false (by omega)
  have b2 : decide (m < 2) = false := decide_eq_false (by omega)
  have hw1 : IntKind.i64.wrap ((m : Int) - 1) = (p : Int) := by rw [i64_w, wrap_id (by omega) (by omega)]; omega
  have hp0 : (0 : Int) ≤ (p : Int) := by omega
  have hp1 : (p : Int) < (m : Int) := by omega
  have hm0 : 0 < m := by omega
  have HF := Aside0.mk (And.intro hcat (And.intro hkind (And.intro hp (And.intro hmp (And.intro hEi (And.intro hdl hd4))))))
  have HE0 := Aside0.mk hE0
  have HM := Aside0.mk hm
  have HEP := Aside0.mk hEp
  clear ho hby hlen hcnt hrr hL hnL hn1000 hcat hkind hE hE2 hm hmp hE0 hEp hEi hdl hds hd4 g0 g1 hp
  go_enter Try.func7, Try.ntmps7
  go_upto_region 8 with (first | (go_at_call 10; refine (hup _).mono ?_; rintro e_ w1 ⟨rfl, hb_⟩; have HB1 := Aside0.mk (below_step HB0.out hb_); have HN1 := Aside0.mk (blk_below HN0.out hb_); clear hb_ HN0 n0_0 n1_0 n2_0 n3_0 n4_0 n5_0 n6_0 n7_0; obtain ⟨n0_1, n1_1, n2_1, n3_1, n4_1, n5_1, n6_1, n7_1⟩ := cells8 HN1.out) | (go_at_call 20; refine (hf5 _).mono ?_; rintro e_ w2 ⟨rfl, hb_⟩; have HB2 := Aside0.mk (below_step HB1.out hb_); have HN2 := Aside0.mk (blk_below HN1.out hb_); clear hb_ HN1 n0_1 n1_1 n2_1 n3_1 n4_1 n5_1 n6_1 n7_1; obtain ⟨n0_2, n1_2, n2_2, n3_2, n4_2, n5_2, n6_2, n7_2⟩ := cells8 HN2.out) | (go_at_call 21; refine (hput _).mono ?_; rintro e_ w3 ⟨A3, c3, rfl, hC3, hl3, hb_⟩; have HB3 := Aside0.mk (below_step HB2.out hb_); have HN3 := Aside0.mk (blk_below HN2.out hb_); have HC3 := hC3; have HL3 := hl3; clear hC3 hl3; clear hb_ HN2 n0_2 n1_2 n2_2 n3_2 n4_2 n5_2 n6_2 n7_2; obtain ⟨n0_3, n1_3, n2_3, n3_3, n4_3, n5_3, n6_3, n7_3⟩ := cells8 HN3.out))
  go_upto_region 9 with (go_at_call 15; refine (hrun _ _ _ HC3.out HL3.out).mono ?_; rintro e_ w4 ⟨A4, c4, rfl, hR, hb_⟩; have HB4 := Aside0.mk (below_alloc (below_step HB3.out hb_) (.cells #[.int .i64 0, .string ⟨#[]⟩, .string ⟨#[]⟩, .int .u8 0, .int .i64 0, .int .i64 0, .int .i64 0, .int .i64 0, .string ⟨#[]⟩, .int .i64 0, .int .i64 0, .string ⟨#[]⟩, .string ⟨#[]⟩, .string ⟨#[]⟩] 25)); have HN4 := Aside0.mk (blk_alloc (blk_below HN3.out hb_) (.cells #[.int .i64 0, .string ⟨#[]⟩, .string ⟨#[]⟩, .int .u8 0, .int .i64 0, .int .i64 0, .int .i64 0, .int .i64 0, .string ⟨#[]⟩, .int .i64 0, .int .i64 0, .string ⟨#[]⟩, .string ⟨#[]⟩, .string ⟨#[]⟩] 25)); have HT4 := Aside0.mk (heap_alloc_new w4 (.cells #[.int .i64 0, .string ⟨#[]⟩, .string ⟨#[]⟩, .int .u8 0, .int .i64 0, .int .i64 0, .int .i64 0, .int .i64 0, .string ⟨#[]⟩, .int .i64 0, .int .i64 0, .string ⟨#[]⟩, .string ⟨#[]⟩, .string ⟨#[]⟩] 25)); have HE4 := Aside0.mk (Kd.R_reads' (Kd.R_alloc hR.out (.cells #[.int .i64 0, .string ⟨#[]⟩, .string ⟨#[]⟩, .int .u8 0, .int .i64 0, .int .i64 0, .int .i64 0, .int .i64 0, .string ⟨#[]⟩, .int .i64 0, .int .i64 0, .string ⟨#[]⟩, .string ⟨#[]⟩, .string ⟨#[]⟩] 25))).2.2; clear hb_ hR n0_3 n1_3 n2_3 n3_3 n4_3 n5_3 n6_3 n7_3)
  obtain ⟨W4, hW4⟩ : ∃ W', w4.alloc (.cells #[.int .i64 0, .string ⟨#[]⟩, .string ⟨#[]⟩, .int .u8 0, .int .i64 0, .int .i64 0, .int .i64 0, .int .i64 0, .string ⟨#[]⟩, .int .i64 0, .int .i64 0, .string ⟨#[]⟩, .string ⟨#[]⟩, .string ⟨#[]⟩] 25) = W' := ⟨_, rfl⟩
  rw [hW4] at HB4 HE4 HN4 HT4 ⊢
  clear hW4 hup hf5 hput hrun
  obtain ⟨h4, hh4⟩ : ∃ k, w4.heap.size = k := ⟨_, rfl⟩
  rw [hh4] at HT4 ⊢
  clear hh4
  obtain ⟨adE, rfl, k0, k1, k2, k3, k4, k5, k6, k7, k8, k9⟩ := ev_cellsN HE4.out (by have h_ := HF.out.2.2.2.1; have h2 := HM.out; omega) _ HE0.out
  obtain ⟨adF, ee_, l0, _, _, _, _, _, _, _, _, _⟩ := ev_cellsN HE4.out (by have h_ := HF.out.2.2.2.1; have h2 := HM.out; omega) _ HEP.out
  obtain rfl := Option.some.inj ee_
  clear ee_
  have k0 : W4.cell? adE = some (.int .i64 0) := k0
  have k1 : W4.cell? ⟨adE.block, adE.off + 1, none⟩ = some (.string n.f0) := k1
  have k2 : W4.cell? ⟨adE.block, adE.off + 2, none⟩ = some (.string n.f1) := k2
  have k3 : W4.cell? ⟨adE.block, adE.off + 3, none⟩ = some (.int .u8 n.f2) := k3
  have k4 : W4.cell? ⟨adE.block, adE.off + 4, none⟩ = some (.int .i64 n.f3) := k4
  have k5 : W4.cell? ⟨adE.block, adE.off + 5, none⟩ = some (.int .i64 n.f4) := k5
  have k6 : W4.cell? ⟨adE.block, adE.off + 6, none⟩ = some (.int .i64 n.f5) := k6
  have k7 : W4.cell? ⟨adE.block, adE.off + 7, none⟩ = some (.int .i64 n.f6) := k7
  have k8 : W4.cell? ⟨adE.block, adE.off + 8, none⟩ = some (.string ⟨#[]⟩) := k8
  have k9 : W4.cell? ⟨adE.block, adE.off + 9, none⟩ = some (.string ⟨#[]⟩) := k9
  have l0 : W4.cell? (adE.add (p * 10)) = some (.int .i64 2) := l0
  have t0 := (blk_cell HT4.out 0).trans (show _ = some (Value.int .i64 0) from rfl)
  have t1 := (blk_cell HT4.out 1).trans (show _ = some (Value.string ⟨#[]⟩) from rfl)
  have t2 := (blk_cell HT4.out 2).trans (show _ = some (Value.string ⟨#[]⟩) from rfl)
  have t3 := (blk_cell HT4.out 3).trans (show _ = some (Value.int .u8 0) from rfl)
  have t4 := (blk_cell HT4.out 4).trans (show _ = some (Value.int .i64 0) from rfl)
  have t5 := (blk_cell HT4.out 5).trans (show _ = some (Value.int .i64 0) from rfl)
  have t6 := (blk_cell HT4.out 6).trans (show _ = some (Value.int .i64 0) from rfl)
  have t7 := (blk_cell HT4.out 7).trans (show _ = some (Value.int .i64 0) from rfl)
  have t8 := (blk_cell HT4.out 8).trans (show _ = some (Value.string ⟨#[]⟩) from rfl)
  have t9 := (blk_cell HT4.out 9).trans (show _ = some (Value.int .i64 0) from rfl)
  have t10 := (blk_cell HT4.out 10).trans (show _ = some (Value.int .i64 0) from rfl)
  have t11 := (blk_cell HT4.out 11).trans (show _ = some (Value.string ⟨#[]⟩) from rfl)
  have t12 := (blk_cell HT4.out 12).trans (show _ = some (Value.string ⟨#[]⟩) from rfl)
  have t13 := (blk_cell HT4.out 13).trans (show _ = some (Value.string ⟨#[]⟩) from rfl)
  go_upto_region 12 with (fail)
  have HB5 := Aside0.mk (below_alloc HB4.out (.cells #[.string n.f0, .string n.f1, .int .u8 n.f2, .int .i64 n.f3, .int .i64 n.f4, .int .i64 n.f5, .int .i64 n.f6, .string ⟨#[]⟩] 23))
  have HN5 := Aside0.mk (blk_alloc HN4.out (.cells #[.string n.f0, .string n.f1, .int .u8 n.f2, .int .i64 n.f3, .int .i64 n.f4, .int .i64 n.f5, .int .i64 n.f6, .string ⟨#[]⟩] 23))
  have HG5 := Aside0.mk (heap_alloc_new W4 (.cells #[.string n.f0, .string n.f1, .int .u8 n.f2, .int .i64 n.f3, .int .i64 n.f4, .int .i64 n.f5, .int .i64 n.f6, .string ⟨#[]⟩] 23))
  have HW5 := Aside0.mk (below_alloc (Below.refl W4.heap.size W4) (.cells #[.string n.f0, .string n.f1, .int .u8 n.f2, .int .i64 n.f3, .int .i64 n.f4, .int .i64 n.f5, .int .i64 n.f6, .string ⟨#[]⟩] 23))
  obtain ⟨W5, hW5⟩ : ∃ W', W4.alloc (.cells #[.string n.f0, .string n.f1, .int .u8 n.f2, .int .i64 n.f3, .int .i64 n.f4, .int .i64 n.f5, .int .i64 n.f6, .string ⟨#[]⟩] 23) = W' := ⟨_, rfl⟩
  have HNE := Aside0.mk (blk_lt HN4.out)
  have HGE := Aside0.mk HB4.out.size
  rw [hW5] at HB5 HN5 HG5 HW5 ⊢
  obtain ⟨g, hg_⟩ : ∃ k, W4.heap.size = k := ⟨_, rfl⟩
  have HGW := Aside0.mk hg_
  rw [hg_] at HG5 HNE HGE HW5 ⊢
  clear hW5 hg_ HB4 HN4 HT4 k0 k1 k2 k3 k4 k5 k6 k7 k8 k9 l0 t0 t1 t2 t3 t4 t5 t6 t7 t8 t9 t10 t11 t12 t13
  have zg7 := (blk_cell HG5.out 7).trans (show _ = some (Value.string ⟨#[]⟩) from rfl)
  go_wp2_with (fail)
  go_loopw [12] (fun v12 wr => ∃ j : Nat, v12 = .int .i64 j ∧ j ≤ p ∧ Aside0 (1 ≤ j) ∧ Aside0 (Below w.heap.size w wr) ∧ Aside0 (wr.heap[w.heap.size]? = some (.cells #[.string n.f0, .string n.f1, .int .u8 n.f2, .int .i64 n.f3, .int .i64 n.f4, .int .i64 n.f5, .int .i64 n.f6, .string n.f7] 23 (0, 0))) ∧ Aside0 (wr.heap[g]? = some (.cells #[.string n.f0, .string n.f1, .int .u8 n.f2, .int .i64 n.f3, .int .i64 n.f4, .int .i64 n.f5, .int .i64 n.f6, .string (catE ⟨#[]⟩ (ds.take (j - 1)))] 23 (0, 0))) ∧ Aside0 (Below g W4 wr)) (fun v12 _ => p - (intOf v12).toNat)
  case atStart => exact ⟨1, rfl, by have h_ := HF.out.2.2.1; omega, ⟨Nat.le_refl _⟩, HB5, HN5, HG5, HW5⟩
  case round =>
    obtain ⟨j, rfl, hj, HJ, HBr, HNr, HGr, HWr⟩ := hrel
    obtain ⟨D, hD⟩ : ∃ D, catE ⟨#[]⟩ (ds.take (j - 1)) = D := ⟨_, rfl⟩
    rw [hD] at HGr
    have HD := Aside0.mk (And.intro HJ.out hD.symm)
    clear hD
    have HEr := Aside0.mk (Kd.C_below HE4.out (by rw [HGW.out]; exact HWr.out))
    clear HB5 HN5 HG5 HW5 zg7
    have zg7 := (blk_cell HGr.out 7).trans (show _ = some (Value.string D) from rfl)
    have y7 := blk_frozen HGr.out 7
    by_cases hlt : j < p
    · have hdd := HF.out
      have hj1 := HD.out.1
      have hjd : j - 1 < ds.length := by omega
      have hx := List.getElem?_eq_getElem hjd
      have hEx : E[j]? = some ds[j - 1] := by
        have h_ := hdd.2.2.2.2.1 (j - 1) hjd
        rw [show j - 1 + 1 = j by omega, hx] at h_
        exact h_
      have hk1 := hdd.2.1 _ (List.getElem_mem hjd)
      have hct := cat_take hx ⟨#[]⟩
      have hle := cat_le ds (j - 1 + 1) ⟨#[]⟩
      rw [hct, hdd.1, show catE ⟨#[]⟩ (ds.take (j - 1)) = D from HD.out.2.symm, ByteArray.size_append] at hle
      rw [show j - 1 + 1 = j by omega, show catE ⟨#[]⟩ (ds.take (j - 1)) = D from HD.out.2.symm] at hct
      have HCT := Aside0.mk hct
      obtain ⟨ad, ea_, k0, _, _, _, _, _, _, _, _, k9⟩ := ev_cellsN HEr.out (by have h2 := HM.out; have h3 := hdd.2.2.2.1; omega) _ hEx
      obtain rfl := Option.some.inj ea_
      have k0 : wr.cell? (adE.add (j * 10)) = some (.int .i64 1) := by rw [k0, hk1.1]
      generalize ds[j - 1] = x at *
      obtain ⟨f0, f1, f2⟩ := x
      simp only at k9 hle HCT
      have hi1 : (j : Int) < (p : Int) := by omega
      have hi0 : (0 : Int) ≤ (j : Int) := by omega
      have hi2 : (j : Int) < (m : Int) := by omega
      have hw2 : IntKind.i64.wrap ((j : Int) + 1) = ((j + 1 : Nat) : Int) := by rw [i64_w, wrap_id (by omega) (by omega)]; omega
      have hsz : D.size + f2.size ≤ 4000 := by have h_ := hdd.2.2.2.2.2.2; omega
      have hnb : ¬ 9223372036854775807 < D.size + f2.size := by omega
      clear ea_ hdd hx hEx hk1 hct hle
      go_upto_region 19 with (fail)
      refine start_ (n := 10) (S := fun w' => w'.cell? ⟨g, 7, none⟩ = some (.string D) ∧ w'.cell? ⟨(adE.add (j * 10)).block, (adE.add (j * 10)).off + 9, none⟩ = some (.string f2)) (ds := [9]) #[false, false, false, false, false, false, false, false, false, false] (by kernel_rfl) rfl rfl ⟨zg7, k9⟩ (fun hHeld => ?_)
      refine pure_ (i := 0) (N := some 93) (v := ?_) (a' := ?_) #[true, false, false, false, false, false, false, false, false, false] rfl rfl (by kernel_rfl) (fun _ _ _ h => h) (Or.inl ⟨by rfl, ?_⟩) ?_ ?_
      rotate_left
      · intro w'
        go_simp
        with_reducible rfl
      rotate_left
      · simp only [Act.put, List.setIfInBounds_toArray, List.set_cons_zero, List.set_cons_succ, i64_w, i32_w]
        rfl
      refine take_ (i := 1) (N := some 94) (v := ?_) (a' := ?_) #[true, true, false, false, false, false, false, false, false, false] rfl rfl (by kernel_rfl) (fun _ _ _ h => h) (Or.inl ⟨by rfl, ?_⟩) hHeld ?_ ?_
      rotate_left
      · rintro w' ⟨s0, s1⟩
        go_simp
        with_reducible rfl
      rotate_left
      · simp only [Act.put, List.setIfInBounds_toArray, List.set_cons_zero, List.set_cons_succ, i64_w, i32_w]
        rfl
      refine pure_ (i := 2) (N := some 95) (v := ?_) (a' := ?_) #[true, true, true, false, false, false, false, false, false, false] rfl rfl (by kernel_rfl) (fun _ _ _ h => h) (Or.inl ⟨by rfl, ?_⟩) ?_ ?_
      rotate_left
      · intro w'
        go_simp
        with_reducible rfl
      rotate_left
      · simp only [Act.put, List.setIfInBounds_toArray, List.set_cons_zero, List.set_cons_succ, i64_w, i32_w]
        rfl
      refine pure_ (i := 3) (N := some 96) (v := ?_) (a' := ?_) #[true, true, true, true, false, false, false, false, false, false] rfl rfl (by kernel_rfl) (fun _ _ _ h => h) (Or.inl ⟨by rfl, ?_⟩) ?_ ?_
      rotate_left
      · intro w'
        go_simp
        with_reducible rfl
      rotate_left
      · simp only [Act.put, List.setIfInBounds_toArray, List.set_cons_zero, List.set_cons_succ, i64_w, i32_w]
        rfl
      refine pure_ (i := 4) (N := some 97) (v := ?_) (a' := ?_) #[true, true, true, true, true, false, false, false, false, false] rfl rfl (by kernel_rfl) (fun _ _ _ h => h) (Or.inl ⟨by rfl, ?_⟩) ?_ ?_
      rotate_left
      · intro w'
        go_simp
        with_reducible rfl
      rotate_left
      · simp only [Act.put, List.setIfInBounds_toArray, List.set_cons_zero, List.set_cons_succ, i64_w, i32_w]
        rfl
      refine pure_ (i := 5) (N := some 98) (v := ?_) (a' := ?_) #[true, true, true, true, true, true, false, false, false, false] rfl rfl (by kernel_rfl) (fun _ _ _ h => h) (Or.inl ⟨by rfl, ?_⟩) ?_ ?_
      rotate_left
      · intro w'
        go_simp
        with_reducible rfl
      rotate_left
      · simp only [Act.put, List.setIfInBounds_toArray, List.set_cons_zero, List.set_cons_succ, i64_w, i32_w]
        rfl
      refine take_ (i := 6) (N := some 99) (v := ?_) (a' := ?_) #[true, true, true, true, true, true, true, false, false, false] rfl rfl (by kernel_rfl) (fun _ _ _ h => h) (Or.inl ⟨by rfl, ?_⟩) hHeld ?_ ?_
      rotate_left
      · rintro w' ⟨s0, s1⟩
        go_simp
        with_reducible rfl
      rotate_left
      · simp only [Act.put, List.setIfInBounds_toArray, List.set_cons_zero, List.set_cons_succ, i64_w, i32_w]
        rfl
      refine pure_ (i := 7) (N := some 100) (v := ?_) (a' := ?_) #[true, true, true, true, true, true, true, true, false, false] rfl rfl (by kernel_rfl) (fun _ _ _ h => h) (Or.inl ⟨by rfl, ?_⟩) ?_ ?_
      rotate_left
      · intro w'
        go_simp
        with_reducible rfl
      rotate_left
      · simp only [Act.put, List.setIfInBounds_toArray, List.set_cons_zero, List.set_cons_succ, i64_w, i32_w]
        rfl
      refine pure_ (i := 8) (N := some 101) (v := ?_) (a' := ?_) #[true, true, true, true, true, true, true, true, true, false] rfl rfl (by kernel_rfl) (fun _ _ _ h => h) (Or.inl ⟨by rfl, ?_⟩) ?_ ?_
      rotate_left
      · intro w'
        go_simp
        with_reducible rfl
      rotate_left
      · simp only [Act.put, List.setIfInBounds_toArray, List.set_cons_zero, List.set_cons_succ, i64_w, i32_w]
        rfl
      refine last_ (i := 9) (N := none) #[true, true, true, true, true, true, true, true, true, true] rfl rfl (by kernel_rfl) (by decide) (fun K hK => ?_)
      rw [if_pos (by rfl)]
      go_simp
      refine hK.out _ _ ?_
      clear hK K
      refine done_ (by kernel_rfl) ?_
      have HBn := Aside0.mk (below_drew1 (HBr.out.setCell (p := ⟨g, 7, none⟩) (by have h_ := HGE.out; exact h_) (.string (D ++ f2))))
      have HNn := Aside0.mk (blk_drew (blk_far HNr.out (p := ⟨g, 7, none⟩) (by have h_ := HNE.out; show w.heap.size ≠ g; omega) (.string (D ++ f2))))
      have HGn := Aside0.mk (blk_drew (blk_put HGr.out 7 (.string (D ++ f2)) (cs' := #[.string n.f0, .string n.f1, .int .u8 n.f2, .int .i64 n.f3, .int .i64 n.f4, .int .i64 n.f5, .int .i64 n.f6, .string (D ++ f2)]) rfl))
      have HWn := Aside0.mk (below_drew1 (HWr.out.setCell (p := ⟨g, 7, none⟩) (Nat.le_refl g) (.string (D ++ f2))))
      go_wp2_with (fail)
      go_roundw
      case rel => exact ⟨j + 1, by go_num, by omega, ⟨by omega⟩, ⟨by have h_ := HGn.out; rw [Nat.add_sub_cancel, HCT.out]; exact h_⟩⟩
      case measure => simp [intOf]; omega
    · obtain rfl : j = p := by omega
      have hi1 : decide ((j : Int) < (j : Int)) = false := decide_eq_false (by omega)
      have hDe : D = n.f7 := by
        have h1 := HF.out.1
        have h2 := HD.out.2
        have h3 := HF.out.2.2.1
        rw [show j - 1 = ds.length by omega, List.take_length, h1] at h2
        exact h2
      subst hDe
      clear hlt
      obtain ⟨q0, q1, q2, q3, q4, q5, q6, q7⟩ := cells8 HNr.out
      obtain ⟨r0, r1, r2, r3, r4, r5, r6, r7⟩ := cells8 HGr.out
      go_wp2_with (fail)
      go_ret
      exact ⟨by simp, HBr.out⟩
theorem reelkeeperlaw09_ParseNode.calls (k : Nat) (a1_0 a1_1 : ByteArray) (a1_2 a1_3 a1_4 a1_5 a1_6 : Int) (a1_7 : ByteArray) (r : Bool) (w : World) (h : reelkeeperlaw09_ParseNode.f k ⟨a1_0, a1_1, a1_2, a1_3, a1_4, a1_5, a1_6, a1_7⟩ = some r) :
    Calls Try.prog 7 #[.agg #[.string a1_0, .string a1_1, .int .u8 a1_2, .int .i64 a1_3, .int .i64 a1_4, .int .i64 a1_5, .int .i64 a1_6, .string a1_7]] w fun e w' => e = .returned (.bool r) ∧ Below w.heap.size w w' := by
  obtain rfl : true = r := Option.some.inj h
  exact parse_node.at_ ⟨a1_0, a1_1, a1_2, a1_3, a1_4, a1_5, a1_6, a1_7⟩ w

end Go.Proofs.Ytoahjigjlgcjkaa.X
