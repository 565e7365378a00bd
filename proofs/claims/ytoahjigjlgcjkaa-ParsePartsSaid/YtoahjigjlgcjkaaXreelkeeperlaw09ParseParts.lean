import Derived.Test.YtoahjigjlgcjkaaXK
import Derived.Test.YtoahjigjlgcjkaaXE23
import Derived.Test.YtoahjigjlgcjkaaXE25
import Derived.Test.YtoahjigjlgcjkaaXGblock
import Derived.Test.YtoahjigjlgcjkaaXGhead
import Derived.Test.YtoahjigjlgcjkaaXGpa
import Derived.Test.YtoahjigjlgcjkaaXGpg
import Derived.Test.YtoahjigjlgcjkaaXGpj
import Derived.Test.YtoahjigjlgcjkaaXGpk
import Derived.Test.YtoahjigjlgcjkaaXGpmay
import Derived.Test.YtoahjigjlgcjkaaXparseSame
import Derived.Test.YtoahjigjlgcjkaaYAll
import Derived.Test.YtoahjigjlgcjkaaP04g
import Derived.Test.YtoahjigjlgcjkaaP09a
import Derived.Test.YtoahjigjlgcjkaaP09b
import Derived.Test.YtoahjigjlgcjkaaP09e
import Derived.Test.YtoahjigjlgcjkaaP09s
import Derived.Test.YtoahjigjlgcjkaaP15o
import Derived.Test.YtoahjigjlgcjkaaP15t
import Derived.Test.YtoahjigjlgcjkaaPGA
import Derived.Test.YtoahjigjlgcjkaaPGE
import Derived.Deep.RegionHeld3
import Derived.Laws.EntriesVeiled
import Derived.WalkSpells
namespace Go.Proofs.Ytoahjigjlgcjkaa.X
open Go.RowKit Go.Proofs.YtoahjigjlgcjkaaW.PrintWords Go.Proofs.YtoahjigjlgcjkaaW.PrintLast Go.Proofs.YtoahjigjlgcjkaaW.PrintMore
attribute [local go_sem] max2_int min2_int max_two min_two
set_option linter.unusedVariables false
set_option linter.unusedSimpArgs false

attribute [local go_sem high] eqA23 eqA25
open Go.Proofs.YtoahjigjlgcjkaaY
set_option maxRecDepth 100000
theorem own_tr {W : World} {base g : Nat} {v : Value} {l : List Tr} {cs : Array Value} {T : TypeId} (hR : Kd.R kTr 26 W base (fun _ => True) v l) (hZ : W.heap[g]? = some (.cells cs T (0, 0))) (hT : T ≠ 26) : some g ≠ v.ownBlock := fun e => by
  obtain ⟨_, _, _, q, hq, cells, hc⟩ := (Kd.R_bound hR).1 g e.symm
  rw [hZ] at hc
  injection hc with hc
  injection hc with _ hc _
  subst hc
  rcases List.mem_cons.1 hq with h | h
  · exact hT h
  · cases h
theorem turn_below {w W W' : World} {g : Nat} (G : Below w.heap.size w W) (hT : Turn (fun i => i = g) W W') (hg : w.heap.size ≤ g) : Below w.heap.size w W' :=
  ⟨hT.os.trans G.os, hT.tape.trans G.tape, hT.output.trans G.output, Nat.le_trans G.size hT.size, fun i hi => (hT.block i (Nat.lt_of_lt_of_le hi G.size) (by omega)).trans (G.block i hi)⟩
def reelkeeperlaw09_ParseParts.f (k : Nat) (s : Pst) (a b : List (List Int)) : Option Bool := some true
theorem ParseParts_told (s : Pst) (a b : List (List Int)) : ∃ k, reelkeeperlaw09_ParseParts.f k s a b = some true := ⟨0, rfl⟩
set_option maxHeartbeats 40000000 in
theorem parse_parts.at_ (s : Pst) (A : Option Addr) (cA : Nat) (a : List (List Int)) (B : Option Addr) (cB : Nat) (b : List (List Int)) (nA nB : Nat) (hnA : a.length = nA) (hnB : b.length = nB) (w : World) (hCA : Kd.C kRw w A nA a) (hcA : nA ≤ cA) (hCB : Kd.C kRw w B nB b) (hcB : nB ≤ cB) (hbyA : ∀ x ∈ a, ∀ y ∈ x, 0 ≤ y ∧ y ≤ 255) (hbyB : ∀ x ∈ b, ∀ y ∈ x, 0 ≤ y ∧ y ≤ 255) :
    Calls Try.prog 6 #[.agg #[.int .i64 s.f0, .string s.f1.f0, .string s.f1.f1, .int .u8 s.f1.f2, .int .i64 s.f1.f3, .int .i64 s.f1.f4, .int .i64 s.f1.f5, .int .i64 s.f1.f6, .string s.f1.f7, .int .i64 s.f2, .int .i64 s.f3, .string s.f4, .string s.f5, .string s.f6], .slice A nA cA, .slice B nB cB] w fun e w' => e = .returned (.bool true) ∧ Below w.heap.size w w' := by
  have HCA := Aside0.mk hCA
  have HCB := Aside0.mk hCB
  have hup := fun W => awake9.at_ W
  have hfew := fun W => few9.at_ s W
  have HB0 := Aside0.mk (Below.refl w.heap.size w)
  have HB0 := Aside0.mk (below_alloc HB0.out (.cells #[.int .i64 s.f0, .string s.f1.f0, .string s.f1.f1, .int .u8 s.f1.f2, .int .i64 s.f1.f3, .int .i64 s.f1.f4, .int .i64 s.f1.f5, .int .i64 s.f1.f6, .string s.f1.f7, .int .i64 s.f2, .int .i64 s.f3, .string s.f4, .string s.f5, .string s.f6] 25))
  have HS0 := Aside0.mk (heap_alloc_new w (.cells #[.int .i64 s.f0, .string s.f1.f0, .string s.f1.f1, .int .u8 s.f1.f2, .int .i64 s.f1.f3, .int .i64 s.f1.f4, .int .i64 s.f1.f5, .int .i64 s.f1.f6, .string s.f1.f7, .int .i64 s.f2, .int .i64 s.f3, .string s.f4, .string s.f5, .string s.f6] 25))
  obtain ⟨z0_0, z1_0, z2_0, z3_0, z4_0, z5_0, z6_0, z7_0, z8_0, z9_0, z10_0, z11_0, z12_0, z13_0⟩ := cells14 HS0.out
  clear hCA hCB
  cases hf : fewS s with
  | false =>
    rw [hf] at hfew
    clear hf
    as_aux_lemma =>
      go_enter Try.func6, Try.ntmps6
      go_wp2_with (first | (go_at_call 10; refine (hup _).mono ?_; rintro e_ w1 ⟨rfl, hb_⟩; have HB1 := Aside0.mk (below_step HB0.out hb_); have HS1 := Aside0.mk (blk_below HS0.out hb_); clear hb_ HS0 z0_0 z1_0 z2_0 z3_0 z4_0 z5_0 z6_0 z7_0 z8_0 z9_0 z10_0 z11_0 z12_0 z13_0; obtain ⟨z0_1, z1_1, z2_1, z3_1, z4_1, z5_1, z6_1, z7_1, z8_1, z9_1, z10_1, z11_1, z12_1, z13_1⟩ := cells14 HS1.out) | (go_at_call 11; refine (hfew _).mono ?_; rintro e_ w2 ⟨rfl, hb_⟩; have HB2 := Aside0.mk (below_step HB1.out hb_); have HS2 := Aside0.mk (blk_below HS1.out hb_); clear hb_ HS1 z0_1 z1_1 z2_1 z3_1 z4_1 z5_1 z6_1 z7_1 z8_1 z9_1 z10_1 z11_1 z12_1 z13_1; obtain ⟨z0_2, z1_2, z2_2, z3_2, z4_2, z5_2, z6_2, z7_2, z8_2, z9_2, z10_2, z11_2, z12_2, z13_2⟩ := cells14 HS2.out))
      go_ret
      exact ⟨rfl, HB2.out⟩
  | true =>
  rw [hf] at hfew
  have hok := few_st hf
  clear hf
  by_cases h30 : 30 < nA
  · have b1 : decide ((nA : Int) > 30) = true := decide_eq_true (by omega)
    have b2 : decide ((30 : Int) < (nA : Int)) = true := decide_eq_true (by omega)
    have b3 : decide (30 < nA) = true := decide_eq_true h30
    clear h30
    as_aux_lemma =>
      go_enter Try.func6, Try.ntmps6
      go_wp2_with (first | (go_at_call 10; refine (hup _).mono ?_; rintro e_ w1 ⟨rfl, hb_⟩; have HB1 := Aside0.mk (below_step HB0.out hb_); have HS1 := Aside0.mk (blk_below HS0.out hb_); clear hb_ HS0 z0_0 z1_0 z2_0 z3_0 z4_0 z5_0 z6_0 z7_0 z8_0 z9_0 z10_0 z11_0 z12_0 z13_0; obtain ⟨z0_1, z1_1, z2_1, z3_1, z4_1, z5_1, z6_1, z7_1, z8_1, z9_1, z10_1, z11_1, z12_1, z13_1⟩ := cells14 HS1.out) | (go_at_call 11; refine (hfew _).mono ?_; rintro e_ w2 ⟨rfl, hb_⟩; have HB2 := Aside0.mk (below_step HB1.out hb_); have HS2 := Aside0.mk (blk_below HS1.out hb_); clear hb_ HS1 z0_1 z1_1 z2_1 z3_1 z4_1 z5_1 z6_1 z7_1 z8_1 z9_1 z10_1 z11_1 z12_1 z13_1; obtain ⟨z0_2, z1_2, z2_2, z3_2, z4_2, z5_2, z6_2, z7_2, z8_2, z9_2, z10_2, z11_2, z12_2, z13_2⟩ := cells14 HS2.out))
      go_ret
      exact ⟨rfl, HB2.out⟩
  have b1 : decide ((nA : Int) > 30) = false := decide_eq_false (by omega)
  have b2 : decide ((30 : Int) < (nA : Int)) = false := decide_eq_false (by omega)
  have b3 : decide (30 < nA) = false := decide_eq_false h30
  by_cases h31 : 30 < nB
  · have b4 : decide ((nB : Int) > 30) = true := decide_eq_true (by omega)
    have b5 : decide ((30 : Int) < (nB : Int)) = true := decide_eq_true (by omega)
    have b6 : decide (30 < nB) = true := decide_eq_true h31
    clear h30 h31
    as_aux_lemma =>
      go_enter Try.func6, Try.ntmps6
      go_wp2_with (first | (go_at_call 10; refine (hup _).mono ?_; rintro e_ w1 ⟨rfl, hb_⟩; have HB1 := Aside0.mk (below_step HB0.out hb_); have HS1 := Aside0.mk (blk_below HS0.out hb_); clear hb_ HS0 z0_0 z1_0 z2_0 z3_0 z4_0 z5_0 z6_0 z7_0 z8_0 z9_0 z10_0 z11_0 z12_0 z13_0; obtain ⟨z0_1, z1_1, z2_1, z3_1, z4_1, z5_1, z6_1, z7_1, z8_1, z9_1, z10_1, z11_1, z12_1, z13_1⟩ := cells14 HS1.out) | (go_at_call 11; refine (hfew _).mono ?_; rintro e_ w2 ⟨rfl, hb_⟩; have HB2 := Aside0.mk (below_step HB1.out hb_); have HS2 := Aside0.mk (blk_below HS1.out hb_); clear hb_ HS1 z0_1 z1_1 z2_1 z3_1 z4_1 z5_1 z6_1 z7_1 z8_1 z9_1 z10_1 z11_1 z12_1 z13_1; obtain ⟨z0_2, z1_2, z2_2, z3_2, z4_2, z5_2, z6_2, z7_2, z8_2, z9_2, z10_2, z11_2, z12_2, z13_2⟩ := cells14 HS2.out))
      go_ret
      exact ⟨rfl, HB2.out⟩
  have b4 : decide ((nB : Int) > 30) = false := decide_eq_false (by omega)
  have b5 : decide ((30 : Int) < (nB : Int)) = false := decide_eq_false (by omega)
  have b6 : decide (30 < nB) = false := decide_eq_false h31
  have hma : ∀ W, Kd.C kRw W A nA a → Calls Try.prog 18 #[.slice A nA cA] W fun e w' => e = .returned (.bool (blocksOk a)) ∧ Drawn0 W w' := fun W hC => by
    have h_ := block_May.calls A cA a _ W (by rw [hnA]; exact hC) (by omega) rfl
    rw [hnA] at h_
    exact h_
  have hmb : ∀ W, Kd.C kRw W B nB b → Calls Try.prog 18 #[.slice B nB cB] W fun e w' => e = .returned (.bool (blocksOk b)) ∧ Drawn0 W w' := fun W hC => by
    have h_ := block_May.calls B cB b _ W (by rw [hnB]; exact hC) (by omega) rfl
    rw [hnB] at h_
    exact h_
  cases hka : blocksOk a with
  | false =>
    rw [hka] at hma
    clear h30 h31 hka
    as_aux_lemma =>
      go_enter Try.func6, Try.ntmps6
      go_wp2_with (first | (go_at_call 10; refine (hup _).mono ?_; rintro e_ w1 ⟨rfl, hb_⟩; have HB1 := Aside0.mk (below_step HB0.out hb_); have HS1 := Aside0.mk (blk_below HS0.out hb_); clear hb_ HS0 z0_0 z1_0 z2_0 z3_0 z4_0 z5_0 z6_0 z7_0 z8_0 z9_0 z10_0 z11_0 z12_0 z13_0; obtain ⟨z0_1, z1_1, z2_1, z3_1, z4_1, z5_1, z6_1, z7_1, z8_1, z9_1, z10_1, z11_1, z12_1, z13_1⟩ := cells14 HS1.out) | (go_at_call 11; refine (hfew _).mono ?_; rintro e_ w2 ⟨rfl, hb_⟩; have HB2 := Aside0.mk (below_step HB1.out hb_); have HS2 := Aside0.mk (blk_below HS1.out hb_); clear hb_ HS1 z0_1 z1_1 z2_1 z3_1 z4_1 z5_1 z6_1 z7_1 z8_1 z9_1 z10_1 z11_1 z12_1 z13_1; obtain ⟨z0_2, z1_2, z2_2, z3_2, z4_2, z5_2, z6_2, z7_2, z8_2, z9_2, z10_2, z11_2, z12_2, z13_2⟩ := cells14 HS2.out) | (go_at_call 18; (with_reducible refine (hma _ (Kd.C_below HCA.out HB2.out)).mono ?_); rintro e_ w3 ⟨rfl, hd_⟩; have hb_ := Drawn0.below hd_; have HB3 := Aside0.mk (below_step HB2.out hb_); have HS3 := Aside0.mk (blk_below HS2.out hb_); clear hb_ HS2 z0_2 z1_2 z2_2 z3_2 z4_2 z5_2 z6_2 z7_2 z8_2 z9_2 z10_2 z11_2 z12_2 z13_2; obtain ⟨z0_3, z1_3, z2_3, z3_3, z4_3, z5_3, z6_3, z7_3, z8_3, z9_3, z10_3, z11_3, z12_3, z13_3⟩ := cells14 HS3.out))
      go_ret
      exact ⟨rfl, HB3.out⟩
  | true =>
  rw [hka] at hma
  cases hkb : blocksOk b with
  | false =>
    rw [hkb] at hmb
    clear h30 h31 hka hkb
    as_aux_lemma =>
      go_enter Try.func6, Try.ntmps6
      go_wp2_with (first | (go_at_call 10; refine (hup _).mono ?_; rintro e_ w1 ⟨rfl, hb_⟩; have HB1 := Aside0.mk (below_step HB0.out hb_); have HS1 := Aside0.mk (blk_below HS0.out hb_); clear hb_ HS0 z0_0 z1_0 z2_0 z3_0 z4_0 z5_0 z6_0 z7_0 z8_0 z9_0 z10_0 z11_0 z12_0 z13_0; obtain ⟨z0_1, z1_1, z2_1, z3_1, z4_1, z5_1, z6_1, z7_1, z8_1, z9_1, z10_1, z11_1, z12_1, z13_1⟩ := cells14 HS1.out) | (go_at_call 11; refine (hfew _).mono ?_; rintro e_ w2 ⟨rfl, hb_⟩; have HB2 := Aside0.mk (below_step HB1.out hb_); have HS2 := Aside0.mk (blk_below HS1.out hb_); clear hb_ HS1 z0_1 z1_1 z2_1 z3_1 z4_1 z5_1 z6_1 z7_1 z8_1 z9_1 z10_1 z11_1 z12_1 z13_1; obtain ⟨z0_2, z1_2, z2_2, z3_2, z4_2, z5_2, z6_2, z7_2, z8_2, z9_2, z10_2, z11_2, z12_2, z13_2⟩ := cells14 HS2.out) | (go_at_call 18; (with_reducible refine (hma _ (Kd.C_below HCA.out HB2.out)).mono ?_); rintro e_ w3 ⟨rfl, hd_⟩; have hb_ := Drawn0.below hd_; have HB3 := Aside0.mk (below_step HB2.out hb_); have HS3 := Aside0.mk (blk_below HS2.out hb_); clear hb_ HS2 z0_2 z1_2 z2_2 z3_2 z4_2 z5_2 z6_2 z7_2 z8_2 z9_2 z10_2 z11_2 z12_2 z13_2; obtain ⟨z0_3, z1_3, z2_3, z3_3, z4_3, z5_3, z6_3, z7_3, z8_3, z9_3, z10_3, z11_3, z12_3, z13_3⟩ := cells14 HS3.out) | (go_at_call 18; (with_reducible refine (hmb _ (Kd.C_below HCB.out HB3.out)).mono ?_); rintro e_ w4 ⟨rfl, hd_⟩; have hb_ := Drawn0.below hd_; have HB4 := Aside0.mk (below_step HB3.out hb_); have HS4 := Aside0.mk (blk_below HS3.out hb_); clear hb_ HS3 z0_3 z1_3 z2_3 z3_3 z4_3 z5_3 z6_3 z7_3 z8_3 z9_3 z10_3 z11_3 z12_3 z13_3; obtain ⟨z0_4, z1_4, z2_4, z3_4, z4_4, z5_4, z6_4, z7_4, z8_4, z9_4, z10_4, z11_4, z12_4, z13_4⟩ := cells14 HS4.out))
      go_ret
      exact ⟨rfl, HB4.out⟩
  | true =>
  rw [hkb] at hmb
  have hap := runR_append s a b
  have hok2 : StOk (runR s a).1 := runP_ok a s [] 0 hok
  have hq1 := runP_told a s [] 0 hok (fun v hv => nomatch hv) (by decide)
  obtain ⟨Q1, hQ1⟩ : ∃ Q, runR s a = Q := ⟨_, rfl⟩
  rw [hQ1] at hap hok2
  rw [show runP s a [] 0 = Q1 from hQ1] at hq1
  obtain ⟨t, x, n, e1⟩ := Q1
  simp only at hap hok2 hq1
  have hq2 := runP_told b t [] 0 hok2 (fun v hv => nomatch hv) (by decide)
  obtain ⟨Q2, hQ2⟩ : ∃ Q, runR t b = Q := ⟨_, rfl⟩
  rw [hQ2] at hap
  rw [show runP t b [] 0 = Q2 from hQ2] at hq2
  obtain ⟨u, y, m, e2⟩ := Q2
  simp only at hap hq2
  obtain ⟨mAB, hmAB⟩ : ∃ k, (a ++ b).length = k := ⟨_, rfl⟩
  have hmAB2 : mAB = nA + nB := by rw [← hmAB, List.length_append, hnA, hnB]
  obtain ⟨Q3, hQ3⟩ : ∃ Q, runR s (a ++ b) = Q := ⟨_, rfl⟩
  rw [hQ3] at hap
  obtain ⟨v, z, k, e3⟩ := Q3
  have hrun1 : ∀ W, Kd.C kRw W A nA a → Calls Try.prog 15 #[.agg #[.int .i64 s.f0, .string s.f1.f0, .string s.f1.f1, .int .u8 s.f1.f2, .int .i64 s.f1.f3, .int .i64 s.f1.f4, .int .i64 s.f1.f5, .int .i64 s.f1.f6, .string s.f1.f7, .int .i64 s.f2, .int .i64 s.f3, .string s.f4, .string s.f5, .string s.f6], .slice A nA cA] W fun e w' => ∃ A4 c4, e = .returned (.tuple #[.agg #[.int .i64 t.f0, .string t.f1.f0, .string t.f1.f1, .int .u8 t.f1.f2, .int .i64 t.f1.f3, .int .i64 t.f1.f4, .int .i64 t.f1.f5, .int .i64 t.f1.f6, .string t.f1.f7, .int .i64 t.f2, .int .i64 t.f3, .string t.f4, .string t.f5, .string t.f6], .slice A4 x.length c4, .int .i64 (n : Int), .int .i64 e1]) ∧ Aside0 (Kd.R k39 39 w' W.heap.size (fun _ => True) (.slice A4 x.length c4) x) ∧ Below W.heap.size W w' := fun W hC => by
    have h_ := parse_Run.at_ s hok A cA a (by omega) W (by rw [hnA]; exact hC) (by omega) hbyA
    rw [hQ1, hnA] at h_
    exact h_
  have hrun2 : ∀ W, Kd.C kRw W B nB b → Calls Try.prog 15 #[.agg #[.int .i64 t.f0, .string t.f1.f0, .string t.f1.f1, .int .u8 t.f1.f2, .int .i64 t.f1.f3, .int .i64 t.f1.f4, .int .i64 t.f1.f5, .int .i64 t.f1.f6, .string t.f1.f7, .int .i64 t.f2, .int .i64 t.f3, .string t.f4, .string t.f5, .string t.f6], .slice B nB cB] W fun e w' => ∃ A4 c4, e = .returned (.tuple #[.agg #[.int .i64 u.f0, .string u.f1.f0, .string u.f1.f1, .int .u8 u.f1.f2, .int .i64 u.f1.f3, .int .i64 u.f1.f4, .int .i64 u.f1.f5, .int .i64 u.f1.f6, .string u.f1.f7, .int .i64 u.f2, .int .i64 u.f3, .string u.f4, .string u.f5, .string u.f6], .slice A4 y.length c4, .int .i64 (m : Int), .int .i64 e2]) ∧ Aside0 (Kd.R k39 39 w' W.heap.size (fun _ => True) (.slice A4 y.length c4) y) ∧ Below W.heap.size W w' := fun W hC => by
    have h_ := parse_Run.at_ t hok2 B cB b (by omega) W (by rw [hnB]; exact hC) (by omega) hbyB
    rw [hQ2, hnB] at h_
    exact h_
  have hrun3 : ∀ (A : Option Addr) (c : Nat) (W : World), Kd.C kRw W A mAB (a ++ b) → mAB ≤ c → Calls Try.prog 15 #[.agg #[.int .i64 s.f0, .string s.f1.f0, .string s.f1.f1, .int .u8 s.f1.f2, .int .i64 s.f1.f3, .int .i64 s.f1.f4, .int .i64 s.f1.f5, .int .i64 s.f1.f6, .string s.f1.f7, .int .i64 s.f2, .int .i64 s.f3, .string s.f4, .string s.f5, .string s.f6], .slice A mAB c] W fun e w' => ∃ A4 c4, e = .returned (.tuple #[.agg #[.int .i64 v.f0, .string v.f1.f0, .string v.f1.f1, .int .u8 v.f1.f2, .int .i64 v.f1.f3, .int .i64 v.f1.f4, .int .i64 v.f1.f5, .int .i64 v.f1.f6, .string v.f1.f7, .int .i64 v.f2, .int .i64 v.f3, .string v.f4, .string v.f5, .string v.f6], .slice A4 z.length c4, .int .i64 (k : Int), .int .i64 e3]) ∧ Aside0 (Kd.R k39 39 w' W.heap.size (fun _ => True) (.slice A4 z.length c4) z) ∧ Below W.heap.size W w' := fun A c W hC hc => by
    have h_ := parse_Run.at_ s hok A c (a ++ b) (by omega) W (by rw [hmAB]; exact hC) (by omega) (fun x hx => (List.mem_append.1 hx).elim (hbyA x) (hbyB x))
    rw [hQ3, hmAB] at h_
    exact h_
  have HAP := Aside0.mk hap
  have HXL := Aside0.mk (show x.length ≤ 100 ∧ y.length ≤ 100 by have h1 := hq1.2.1; have h2 := hq1.2.2.2.1; have h3 := hq2.2.1; have h4 := hq2.2.2.2.1; exact ⟨by omega, by omega⟩)
  have HNM := Aside0.mk (show n ≤ 100 ∧ m ≤ 100 by have h2 := hq1.2.2.2.1; have h4 := hq2.2.2.2.1; exact ⟨by omega, by omega⟩)
  have HNA := Aside0.mk (show nA ≤ 30 ∧ nB ≤ 30 by omega)
  have HM5 := Aside0.mk hmAB
  have HAL := Aside0.mk hnA
  have HBL := Aside0.mk hnB
  clear h30 h31 hka hkb hap hok2 hq1 hq2 hQ1 hQ2 hQ3 hmAB hmAB2 hnA hnB hbyA hbyB hok
  go_enter Try.func6, Try.ntmps6
  go_upto_region 5 with (first | (go_at_call 10; refine (hup _).mono ?_; rintro e_ w1 ⟨rfl, hb_⟩; have HB1 := Aside0.mk (below_step HB0.out hb_); have HS1 := Aside0.mk (blk_below HS0.out hb_); clear hb_ HS0 z0_0 z1_0 z2_0 z3_0 z4_0 z5_0 z6_0 z7_0 z8_0 z9_0 z10_0 z11_0 z12_0 z13_0; obtain ⟨z0_1, z1_1, z2_1, z3_1, z4_1, z5_1, z6_1, z7_1, z8_1, z9_1, z10_1, z11_1, z12_1, z13_1⟩ := cells14 HS1.out) | (go_at_call 11; refine (hfew _).mono ?_; rintro e_ w2 ⟨rfl, hb_⟩; have HB2 := Aside0.mk (below_step HB1.out hb_); have HS2 := Aside0.mk (blk_below HS1.out hb_); clear hb_ HS1 z0_1 z1_1 z2_1 z3_1 z4_1 z5_1 z6_1 z7_1 z8_1 z9_1 z10_1 z11_1 z12_1 z13_1; obtain ⟨z0_2, z1_2, z2_2, z3_2, z4_2, z5_2, z6_2, z7_2, z8_2, z9_2, z10_2, z11_2, z12_2, z13_2⟩ := cells14 HS2.out) | (go_at_call 18; (with_reducible refine (hma _ (Kd.C_below HCA.out HB2.out)).mono ?_); rintro e_ w3 ⟨rfl, hd_⟩; have hb_ := Drawn0.below hd_; have HB3 := Aside0.mk (below_step HB2.out hb_); have HS3 := Aside0.mk (blk_below HS2.out hb_); clear hb_ HS2 z0_2 z1_2 z2_2 z3_2 z4_2 z5_2 z6_2 z7_2 z8_2 z9_2 z10_2 z11_2 z12_2 z13_2; obtain ⟨z0_3, z1_3, z2_3, z3_3, z4_3, z5_3, z6_3, z7_3, z8_3, z9_3, z10_3, z11_3, z12_3, z13_3⟩ := cells14 HS3.out) | (go_at_call 18; (with_reducible refine (hmb _ (Kd.C_below HCB.out HB3.out)).mono ?_); rintro e_ w4 ⟨rfl, hd_⟩; have hb_ := Drawn0.below hd_; have HB4 := Aside0.mk (below_step HB3.out hb_); have HS4 := Aside0.mk (blk_below HS3.out hb_); clear hb_ HS3 z0_3 z1_3 z2_3 z3_3 z4_3 z5_3 z6_3 z7_3 z8_3 z9_3 z10_3 z11_3 z12_3 z13_3; obtain ⟨z0_4, z1_4, z2_4, z3_4, z4_4, z5_4, z6_4, z7_4, z8_4, z9_4, z10_4, z11_4, z12_4, z13_4⟩ := cells14 HS4.out))
  go_upto_region 6 with (go_at_call 15; (with_reducible refine (hrun1 _ (Kd.C_below HCA.out HB4.out)).mono ?_); rintro e_ w5 ⟨AX, cx, rfl, hR, hb_⟩; have HB5 := Aside0.mk (below_alloc (below_step HB4.out hb_) (.cells #[.int .i64 t.f0, .string t.f1.f0, .string t.f1.f1, .int .u8 t.f1.f2, .int .i64 t.f1.f3, .int .i64 t.f1.f4, .int .i64 t.f1.f5, .int .i64 t.f1.f6, .string t.f1.f7, .int .i64 t.f2, .int .i64 t.f3, .string t.f4, .string t.f5, .string t.f6] 25)); have HS5 := Aside0.mk (blk_alloc (blk_below HS4.out hb_) (.cells #[.int .i64 t.f0, .string t.f1.f0, .string t.f1.f1, .int .u8 t.f1.f2, .int .i64 t.f1.f3, .int .i64 t.f1.f4, .int .i64 t.f1.f5, .int .i64 t.f1.f6, .string t.f1.f7, .int .i64 t.f2, .int .i64 t.f3, .string t.f4, .string t.f5, .string t.f6] 25)); have HT5 := Aside0.mk (heap_alloc_new w5 (.cells #[.int .i64 t.f0, .string t.f1.f0, .string t.f1.f1, .int .u8 t.f1.f2, .int .i64 t.f1.f3, .int .i64 t.f1.f4, .int .i64 t.f1.f5, .int .i64 t.f1.f6, .string t.f1.f7, .int .i64 t.f2, .int .i64 t.f3, .string t.f4, .string t.f5, .string t.f6] 25)); have HX5 := Aside0.mk (Kd.R_reads' (Kd.R_alloc hR.out (.cells #[.int .i64 t.f0, .string t.f1.f0, .string t.f1.f1, .int .u8 t.f1.f2, .int .i64 t.f1.f3, .int .i64 t.f1.f4, .int .i64 t.f1.f5, .int .i64 t.f1.f6, .string t.f1.f7, .int .i64 t.f2, .int .i64 t.f3, .string t.f4, .string t.f5, .string t.f6] 25))).2; clear hb_ hR z0_4 z1_4 z2_4 z3_4 z4_4 z5_4 z6_4 z7_4 z8_4 z9_4 z10_4 z11_4 z12_4 z13_4)
  obtain ⟨W5, hW5⟩ : ∃ W', w5.alloc (.cells #[.int .i64 t.f0, .string t.f1.f0, .string t.f1.f1, .int .u8 t.f1.f2, .int .i64 t.f1.f3, .int .i64 t.f1.f4, .int .i64 t.f1.f5, .int .i64 t.f1.f6, .string t.f1.f7, .int .i64 t.f2, .int .i64 t.f3, .string t.f4, .string t.f5, .string t.f6] 25) = W' := ⟨_, rfl⟩
  have HLT5 := Aside0.mk (blk_lt HS5.out)
  rw [hW5] at HB5 HS5 HT5 HX5 HLT5 ⊢
  obtain ⟨gT, hgT⟩ : ∃ k, w5.heap.size = k := ⟨_, rfl⟩
  rw [hgT] at HT5 ⊢
  clear hW5 hgT
  obtain ⟨z0_5, z1_5, z2_5, z3_5, z4_5, z5_5, z6_5, z7_5, z8_5, z9_5, z10_5, z11_5, z12_5, z13_5⟩ := cells14 HS5.out
  obtain ⟨t0_5, t1_5, t2_5, t3_5, t4_5, t5_5, t6_5, t7_5, t8_5, t9_5, t10_5, t11_5, t12_5, t13_5⟩ := cells14 HT5.out
  go_upto_region 7 with (go_at_call 15; (with_reducible refine (hrun2 _ (Kd.C_below HCB.out HB5.out)).mono ?_); rintro e_ w6 ⟨AY, cy, rfl, hR, hb_⟩; have HB6 := Aside0.mk (below_alloc (below_step HB5.out hb_) (.cells #[.int .i64 u.f0, .string u.f1.f0, .string u.f1.f1, .int .u8 u.f1.f2, .int .i64 u.f1.f3, .int .i64 u.f1.f4, .int .i64 u.f1.f5, .int .i64 u.f1.f6, .string u.f1.f7, .int .i64 u.f2, .int .i64 u.f3, .string u.f4, .string u.f5, .string u.f6] 25)); have HS6 := Aside0.mk (blk_alloc (blk_below HS5.out hb_) (.cells #[.int .i64 u.f0, .string u.f1.f0, .string u.f1.f1, .int .u8 u.f1.f2, .int .i64 u.f1.f3, .int .i64 u.f1.f4, .int .i64 u.f1.f5, .int .i64 u.f1.f6, .string u.f1.f7, .int .i64 u.f2, .int .i64 u.f3, .string u.f4, .string u.f5, .string u.f6] 25)); have HT6 := Aside0.mk (blk_alloc (blk_below HT5.out hb_) (.cells #[.int .i64 u.f0, .string u.f1.f0, .string u.f1.f1, .int .u8 u.f1.f2, .int .i64 u.f1.f3, .int .i64 u.f1.f4, .int .i64 u.f1.f5, .int .i64 u.f1.f6, .string u.f1.f7, .int .i64 u.f2, .int .i64 u.f3, .string u.f4, .string u.f5, .string u.f6] 25)); have HU6 := Aside0.mk (heap_alloc_new w6 (.cells #[.int .i64 u.f0, .string u.f1.f0, .string u.f1.f1, .int .u8 u.f1.f2, .int .i64 u.f1.f3, .int .i64 u.f1.f4, .int .i64 u.f1.f5, .int .i64 u.f1.f6, .string u.f1.f7, .int .i64 u.f2, .int .i64 u.f3, .string u.f4, .string u.f5, .string u.f6] 25)); have HX6 := Aside0.mk (And.intro HX5.out.1 (Kd.C_alloc (Kd.C_below HX5.out.2 hb_) (.cells #[.int .i64 u.f0, .string u.f1.f0, .string u.f1.f1, .int .u8 u.f1.f2, .int .i64 u.f1.f3, .int .i64 u.f1.f4, .int .i64 u.f1.f5, .int .i64 u.f1.f6, .string u.f1.f7, .int .i64 u.f2, .int .i64 u.f3, .string u.f4, .string u.f5, .string u.f6] 25))); have HY6 := Aside0.mk (Kd.R_reads' (Kd.R_alloc hR.out (.cells #[.int .i64 u.f0, .string u.f1.f0, .string u.f1.f1, .int .u8 u.f1.f2, .int .i64 u.f1.f3, .int .i64 u.f1.f4, .int .i64 u.f1.f5, .int .i64 u.f1.f6, .string u.f1.f7, .int .i64 u.f2, .int .i64 u.f3, .string u.f4, .string u.f5, .string u.f6] 25))).2; clear hb_ hR z0_5 t0_5 z1_5 t1_5 z2_5 t2_5 z3_5 t3_5 z4_5 t4_5 z5_5 t5_5 z6_5 t6_5 z7_5 t7_5 z8_5 t8_5 z9_5 t9_5 z10_5 t10_5 z11_5 t11_5 z12_5 t12_5 z13_5 t13_5)
  obtain ⟨W6, hW6⟩ : ∃ W', w6.alloc (.cells #[.int .i64 u.f0, .string u.f1.f0, .string u.f1.f1, .int .u8 u.f1.f2, .int .i64 u.f1.f3, .int .i64 u.f1.f4, .int .i64 u.f1.f5, .int .i64 u.f1.f6, .string u.f1.f7, .int .i64 u.f2, .int .i64 u.f3, .string u.f4, .string u.f5, .string u.f6] 25) = W' := ⟨_, rfl⟩
  rw [hW6] at HB6 HS6 HT6 HU6 HX6 HY6 ⊢
  obtain ⟨gU, hgU⟩ : ∃ k, w6.heap.size = k := ⟨_, rfl⟩
  rw [hgU] at HU6 ⊢
  clear hW6 hgU HB5 HS5 HT5 HX5 HLT5
  obtain ⟨ts, hts, hft⟩ := rows_split (Kd.C_below HCA.out HB6.out)
  obtain ⟨us, hus, hfu⟩ := rows_split (Kd.C_below HCB.out HB6.out)
  have HTL := Aside0.mk (show ts.length = nA from hts.1)
  have HM5T := Aside0.mk (show (ts ++ us).length = mAB by rw [List.length_append, show ts.length = nA from hts.1, show us.length = nB from hus.1, ← HM5.out, List.length_append, HAL.out, HBL.out])
  have HTS := Aside0.mk hts
  have HUS := Aside0.mk hus
  have HFT := Aside0.mk hft
  have HFU := Aside0.mk hfu
  clear hts hus hft hfu hup hfew hma hmb hrun1 hrun2
  obtain ⟨z0_6, z1_6, z2_6, z3_6, z4_6, z5_6, z6_6, z7_6, z8_6, z9_6, z10_6, z11_6, z12_6, z13_6⟩ := cells14 HS6.out
  go_cut [17, 18, 19, 20] (fun v17 v18 v19 v20 wc => ∃ (g : Nat) (AZ : Option Addr) (cz : Nat), v17 = .pointer (some ⟨g, 0, none⟩) ∧ v18 = .slice AZ z.length cz ∧ v19 = .int .i64 (k : Int) ∧ v20 = .int .i64 e3 ∧ Aside0 (Below W6.heap.size W6 wc) ∧ Aside0 (wc.heap[g]? = some (.cells #[.int .i64 v.f0, .string v.f1.f0, .string v.f1.f1, .int .u8 v.f1.f2, .int .i64 v.f1.f3, .int .i64 v.f1.f4, .int .i64 v.f1.f5, .int .i64 v.f1.f6, .string v.f1.f7, .int .i64 v.f2, .int .i64 v.f3, .string v.f4, .string v.f5, .string v.f6] 25 (0, 0))) ∧ Aside0 (z.length ≤ cz ∧ Kd.C k39 wc AZ z.length z))
  case first =>
    have HBBd := Aside0.mk (below_drew1 (Below.refl W6.heap.size W6))
    refine start_ (n := 16) (S := fun w' => w'.cell? ⟨w.heap.size, 0, none⟩ = some (.int .i64 s.f0) ∧ w'.cell? ⟨w.heap.size, 1, none⟩ = some (.string s.f1.f0) ∧ w'.cell? ⟨w.heap.size, 2, none⟩ = some (.string s.f1.f1) ∧ w'.cell? ⟨w.heap.size, 3, none⟩ = some (.int .u8 s.f1.f2) ∧ w'.cell? ⟨w.heap.size, 4, none⟩ = some (.int .i64 s.f1.f3) ∧ w'.cell? ⟨w.heap.size, 5, none⟩ = some (.int .i64 s.f1.f4) ∧ w'.cell? ⟨w.heap.size, 6, none⟩ = some (.int .i64 s.f1.f5) ∧ w'.cell? ⟨w.heap.size, 7, none⟩ = some (.int .i64 s.f1.f6) ∧ w'.cell? ⟨w.heap.size, 8, none⟩ = some (.string s.f1.f7) ∧ w'.cell? ⟨w.heap.size, 9, none⟩ = some (.int .i64 s.f2) ∧ w'.cell? ⟨w.heap.size, 10, none⟩ = some (.int .i64 s.f3) ∧ w'.cell? ⟨w.heap.size, 11, none⟩ = some (.string s.f4) ∧ w'.cell? ⟨w.heap.size, 12, none⟩ = some (.string s.f5) ∧ w'.cell? ⟨w.heap.size, 13, none⟩ = some (.string s.f6)) (ds := [12]) #[false, false, false, false, false, false, false, false, false, false, false, false, false, false, false, false] (by as_aux_lemma => kernel_rfl) rfl rfl ⟨z0_6, z1_6, z2_6, z3_6, z4_6, z5_6, z6_6, z7_6, z8_6, z9_6, z10_6, z11_6, z12_6, z13_6⟩ (fun hHeld => ?_)
    refine take_ (i := 0) (N := some 68) (v := ?_) (a' := ?_) #[true, false, false, false, false, false, false, false, false, false, false, false, false, false, false, false] rfl rfl (by as_aux_lemma => kernel_rfl) (fun _ _ _ h => h) (Or.inl ⟨by rfl, ?_⟩) hHeld ?_ ?_
    rotate_left
    · rintro w' ⟨s0, s1, s2, s3, s4, s5, s6, s7, s8, s9, s10, s11, s12, s13⟩
      go_simp
      with_reducible rfl
    rotate_left
    · simp only [Act.put, List.setIfInBounds_toArray, List.set_cons_zero, List.set_cons_succ, i64_w, i32_w]
      rfl
    refine pure_ (i := 1) (N := some 69) (v := ?_) (a' := ?_) #[true, true, false, false, false, false, false, false, false, false, false, false, false, false, false, false] rfl rfl (by as_aux_lemma => kernel_rfl) (fun _ _ _ h => h) (Or.inl ⟨by rfl, ?_⟩) ?_ ?_
    rotate_left
    · intro w'
      go_simp
      with_reducible rfl
    rotate_left
    · simp only [Act.put, List.setIfInBounds_toArray, List.set_cons_zero, List.set_cons_succ, i64_w, i32_w]
      rfl
    refine pure_ (i := 3) (N := some 71) (v := ?_) (a' := ?_) #[true, true, false, true, false, false, false, false, false, false, false, false, false, false, false, false] rfl rfl (by as_aux_lemma => kernel_rfl) (fun _ _ _ h => h) (Or.inl ⟨by rfl, ?_⟩) ?_ ?_
    rotate_left
    · intro w'
      go_simp
      with_reducible rfl
    rotate_left
    · simp only [Act.put, List.setIfInBounds_toArray, List.set_cons_zero, List.set_cons_succ, i64_w, i32_w]
      rfl
    refine two_ (i := 2) (Ni := some 70) (j := 11) (Nj := some 17) #[true, true, true, true, false, false, false, false, false, false, false, false, false, false, false, false] #[true, true, false, true, false, false, false, false, false, false, false, true, false, false, false, false] rfl rfl rfl rfl (by as_aux_lemma => kernel_rfl) (by decide) (by decide) (fun K hK => ?_) (fun K hK => ?_)
    · skip
      refine Kd.R_append_rows_step kTr (w0 := W6) W6.heap.size (by rfl) (.const (.slice none 0 0)) (.tmp 69) 34 26 (.slice none 0 0) 24 (by rfl) Try.underlying34 info26 rfl (by decide) (by decide) _ [] ts A nA cA (fun _ => True) (fun _ => False) (by rfl) (by rfl) (Kd.R_nil _ _ _ _ _) (Kd.C_below HTS.out HBBd.out) (fun _ _ h => h) (fun _ h => h.elim) (fun _ _ => trivial) HBBd.out (Below.size HBBd.out) (by have h_ := HNA.out; simp; omega) ?_
      intro v1 wx1 hO hB hg hat
      obtain ⟨A1, c1, rfl⟩ := Kd.R_slice hO
      simp only [List.nil_append] at hO
      simp only [List.nil_append]
      have HBBx1 := Aside0.mk hB
      have HOx1 := Aside0.mk hO
      clear hO hB hg hat
      obtain ⟨q0, q1, q2, q3, q4, q5, q6, q7, q8, q9, q10, q11, q12, q13⟩ := cells14 (blk_below HS6.out HBBx1.out)
      refine hK.out _ _ ⟨q0, q1, q2, q3, q4, q5, q6, q7, q8, q9, q10, q11, q12, q13⟩ (fun hHeld => ?_)
      clear hK K
      refine norm_ (a' := ?_) ?_ ?_
      rotate_left
      · show Act.put _ (some 70) _ = _
        simp only [Act.put, List.setIfInBounds_toArray, List.set_cons_zero, List.set_cons_succ, i64_w, i32_w]
        rfl
      clear q0 q1 q2 q3 q4 q5 q6 q7 q8 q9 q10 q11 q12 q13
      refine two_ (i := 4) (Ni := some 72) (j := 11) (Nj := some 17) #[true, true, true, true, true, false, false, false, false, false, false, false, false, false, false, false] #[true, true, true, true, false, false, false, false, false, false, false, true, false, false, false, false] rfl rfl rfl rfl (by as_aux_lemma => kernel_rfl) (by decide) (by decide) (fun K hK => ?_) (fun K hK => ?_)
      · skip
        refine Kd.R_append_rows_step kTr (w0 := W6) W6.heap.size (by rfl) (.tmp 70) (.tmp 71) 34 26 (.slice none 0 0) 24 (by rfl) Try.underlying34 info26 rfl (by decide) (by decide) _ ts us B nB cB (fun _ => True) (fun _ => False) (by rfl) (by rfl) HOx1.out (Kd.C_below HUS.out HBBx1.out) (fun _ _ h => h) (fun _ h => h.elim) (fun _ _ => trivial) HBBx1.out (Below.size HBBx1.out) (by have h_ := HNA.out; have h2 := HTL.out; omega) ?_
        intro v1 wx2 hO hB hg hat
        obtain ⟨A2, c2, rfl, hc2, hC2⟩ := Kd.R_reads hO
        have hC2 := rows_join hC2 (forall_app (forall_below hB HFT.out) (forall_below hB HFU.out))
        rw [HM5T.out] at hC2 hc2 ⊢
        have HBBx2 := Aside0.mk hB
        have HCx2 := Aside0.mk hC2
        have HLx2 := Aside0.mk hc2
        clear hO hB hg hat hC2 hc2
        obtain ⟨q0, q1, q2, q3, q4, q5, q6, q7, q8, q9, q10, q11, q12, q13⟩ := cells14 (blk_below HS6.out HBBx2.out)
        refine hK.out _ _ ⟨q0, q1, q2, q3, q4, q5, q6, q7, q8, q9, q10, q11, q12, q13⟩ (fun hHeld => ?_)
        clear hK K
        refine norm_ (a' := ?_) ?_ ?_
        rotate_left
        · show Act.put _ (some 72) _ = _
          simp only [Act.put, List.setIfInBounds_toArray, List.set_cons_zero, List.set_cons_succ, i64_w, i32_w]
          rfl
        clear q0 q1 q2 q3 q4 q5 q6 q7 q8 q9 q10 q11 q12 q13
        refine two_ (i := 5) (Ni := some 73) (j := 11) (Nj := some 17) #[true, true, true, true, true, true, false, false, false, false, false, false, false, false, false, false] #[true, true, true, true, true, false, false, false, false, false, false, true, false, false, false, false] rfl rfl rfl rfl (by as_aux_lemma => kernel_rfl) (by decide) (by decide) (fun K hK => ?_) (fun K hK => ?_)
        · skip
          refine goes_ Try.func15 (by as_aux_lemma => kernel_rfl) rfl #[.agg #[.int .i64 s.f0, .string s.f1.f0, .string s.f1.f1, .int .u8 s.f1.f2, .int .i64 s.f1.f3, .int .i64 s.f1.f4, .int .i64 s.f1.f5, .int .i64 s.f1.f6, .string s.f1.f7, .int .i64 s.f2, .int .i64 s.f3, .string s.f4, .string s.f5, .string s.f6], .slice A2 mAB c2] (by rfl) rfl rfl (by (try simp only [List.map_toArray, List.map_cons, List.map_nil]); first | done | rfl | (simp only [List.length_drop, List.length_take]; rfl)) ?_
          refine (hrun3 _ _ _ HCx2.out HLx2.out).mono ?_
          rintro e_ wx3 ⟨AZ, cz, rfl, hR, hb_⟩
          have HBBx3 := Aside0.mk (below_step HBBx2.out hb_)
          have HZx3 := hR
          clear hb_
          refine ⟨_, rfl, ?_⟩
          obtain ⟨q0, q1, q2, q3, q4, q5, q6, q7, q8, q9, q10, q11, q12, q13⟩ := cells14 (blk_below HS6.out HBBx3.out)
          refine hK.out _ _ ⟨q0, q1, q2, q3, q4, q5, q6, q7, q8, q9, q10, q11, q12, q13⟩ (fun hHeld => ?_)
          clear hK K
          refine norm_ (a' := ?_) ?_ ?_
          rotate_left
          · show Act.put _ (some 73) _ = _
            simp only [Act.put, List.setIfInBounds_toArray, List.set_cons_zero, List.set_cons_succ, i64_w, i32_w]
            rfl
          clear q0 q1 q2 q3 q4 q5 q6 q7 q8 q9 q10 q11 q12 q13
          refine pure_ (i := 6) (N := some 67) (v := ?_) (a' := ?_) #[true, true, true, true, true, true, true, false, false, false, false, false, false, false, false, false] rfl rfl (by as_aux_lemma => kernel_rfl) (fun _ _ _ h => h) (Or.inl ⟨by rfl, ?_⟩) ?_ ?_
          rotate_left
          · intro w'
            go_simp
            with_reducible rfl
          rotate_left
          · simp only [Act.put, List.setIfInBounds_toArray, List.set_cons_zero, List.set_cons_succ, i64_w, i32_w]
            rfl
          refine pure_ (i := 7) (N := some 74) (v := ?_) (a' := ?_) #[true, true, true, true, true, true, true, true, false, false, false, false, false, false, false, false] rfl rfl (by as_aux_lemma => kernel_rfl) (fun _ _ _ h => h) (Or.inl ⟨by rfl, ?_⟩) ?_ ?_
          rotate_left
          · intro w'
            go_simp
            with_reducible rfl
          rotate_left
          · simp only [Act.put, List.setIfInBounds_toArray, List.set_cons_zero, List.set_cons_succ, i64_w, i32_w]
            rfl
          refine pure_ (i := 8) (N := some 75) (v := ?_) (a' := ?_) #[true, true, true, true, true, true, true, true, true, false, false, false, false, false, false, false] rfl rfl (by as_aux_lemma => kernel_rfl) (fun _ _ _ h => h) (Or.inl ⟨by rfl, ?_⟩) ?_ ?_
          rotate_left
          · intro w'
            go_simp
            with_reducible rfl
          rotate_left
          · simp only [Act.put, List.setIfInBounds_toArray, List.set_cons_zero, List.set_cons_succ, i64_w, i32_w]
            rfl
          refine pure_ (i := 9) (N := some 76) (v := ?_) (a' := ?_) #[true, true, true, true, true, true, true, true, true, true, false, false, false, false, false, false] rfl rfl (by as_aux_lemma => kernel_rfl) (fun _ _ _ h => h) (Or.inl ⟨by rfl, ?_⟩) ?_ ?_
          rotate_left
          · intro w'
            go_simp
            with_reducible rfl
          rotate_left
          · simp only [Act.put, List.setIfInBounds_toArray, List.set_cons_zero, List.set_cons_succ, i64_w, i32_w]
            rfl
          refine pure_ (i := 10) (N := some 77) (v := ?_) (a' := ?_) #[true, true, true, true, true, true, true, true, true, true, true, false, false, false, false, false] rfl rfl (by as_aux_lemma => kernel_rfl) (fun _ _ _ h => h) (Or.inl ⟨by rfl, ?_⟩) ?_ ?_
          rotate_left
          · intro w'
            go_simp
            with_reducible rfl
          rotate_left
          · simp only [Act.put, List.setIfInBounds_toArray, List.set_cons_zero, List.set_cons_succ, i64_w, i32_w]
            rfl
          refine one_ (i := 11) (N := some 17) #[true, true, true, true, true, true, true, true, true, true, true, true, false, false, false, false] rfl rfl (by as_aux_lemma => kernel_rfl) (by decide) (fun K hK => ?_)
          rw [if_pos (by rfl)]
          go_simp
          have HBBx4 := Aside0.mk (id (below_alloc HBBx3.out (.cells #[.int .i64 0, .string ⟨#[]⟩, .string ⟨#[]⟩, .int .u8 0, .int .i64 0, .int .i64 0, .int .i64 0, .int .i64 0, .string ⟨#[]⟩, .int .i64 0, .int .i64 0, .string ⟨#[]⟩, .string ⟨#[]⟩, .string ⟨#[]⟩] 25)))
          have HGx4 := Aside0.mk (id (heap_alloc_new wx3 (.cells #[.int .i64 0, .string ⟨#[]⟩, .string ⟨#[]⟩, .int .u8 0, .int .i64 0, .int .i64 0, .int .i64 0, .int .i64 0, .string ⟨#[]⟩, .int .i64 0, .int .i64 0, .string ⟨#[]⟩, .string ⟨#[]⟩, .string ⟨#[]⟩] 25)))
          have HGL := Aside0.mk (Below.size (HBBx3.out))
          have HZx4 := Aside0.mk (Kd.R_alloc HZx3.out (.cells #[.int .i64 0, .string ⟨#[]⟩, .string ⟨#[]⟩, .int .u8 0, .int .i64 0, .int .i64 0, .int .i64 0, .int .i64 0, .string ⟨#[]⟩, .int .i64 0, .int .i64 0, .string ⟨#[]⟩, .string ⟨#[]⟩, .string ⟨#[]⟩] 25))
          obtain ⟨q0, q1, q2, q3, q4, q5, q6, q7, q8, q9, q10, q11, q12, q13⟩ := cells14 (blk_below HS6.out HBBx4.out)
          refine hK.out _ _ ⟨q0, q1, q2, q3, q4, q5, q6, q7, q8, q9, q10, q11, q12, q13⟩ (fun hHeld => ?_)
          clear hK K q0 q1 q2 q3 q4 q5 q6 q7 q8 q9 q10 q11 q12 q13
          obtain ⟨wx4, hWa⟩ : ∃ W, (wx3.alloc (.cells #[.int .i64 0, .string ⟨#[]⟩, .string ⟨#[]⟩, .int .u8 0, .int .i64 0, .int .i64 0, .int .i64 0, .int .i64 0, .string ⟨#[]⟩, .int .i64 0, .int .i64 0, .string ⟨#[]⟩, .string ⟨#[]⟩, .string ⟨#[]⟩] 25)) = W := ⟨_, rfl⟩
          rw [hWa] at HBBx4 HGx4 HZx4 hHeld ⊢
          clear hWa
          generalize wx3.heap.size = g at *
          obtain ⟨t0, t1, t2, t3, t4, t5, t6, t7, t8, t9, t10, t11, t12, t13⟩ := cells14 HGx4.out
          have y0 := blk_frozen HGx4.out 0
          have y1 := blk_frozen HGx4.out 1
          have y2 := blk_frozen HGx4.out 2
          have y3 := blk_frozen HGx4.out 3
          have y4 := blk_frozen HGx4.out 4
          have y5 := blk_frozen HGx4.out 5
          have y6 := blk_frozen HGx4.out 6
          have y7 := blk_frozen HGx4.out 7
          have y8 := blk_frozen HGx4.out 8
          have y9 := blk_frozen HGx4.out 9
          have y10 := blk_frozen HGx4.out 10
          have y11 := blk_frozen HGx4.out 11
          have y12 := blk_frozen HGx4.out 12
          have y13 := blk_frozen HGx4.out 13
          refine last_ (i := 12) (N := none) #[true, true, true, true, true, true, true, true, true, true, true, true, true, false, false, false] rfl rfl (by as_aux_lemma => kernel_rfl) (by decide) (fun K hK => ?_)
          rw [if_pos (by rfl)]
          go_simp
          refine hK.out _ _ ?_
          clear hK K
          refine pure_ (i := 13) (N := some 18) (v := ?_) (a' := ?_) #[true, true, true, true, true, true, true, true, true, true, true, true, true, true, false, false] rfl rfl (by as_aux_lemma => kernel_rfl) (fun _ _ _ h => h) (Or.inl ⟨by rfl, ?_⟩) ?_ ?_
          rotate_left
          · intro w'
            go_simp
            with_reducible rfl
          rotate_left
          · simp only [Act.put, List.setIfInBounds_toArray, List.set_cons_zero, List.set_cons_succ, i64_w, i32_w]
            rfl
          refine pure_ (i := 14) (N := some 19) (v := ?_) (a' := ?_) #[true, true, true, true, true, true, true, true, true, true, true, true, true, true, true, false] rfl rfl (by as_aux_lemma => kernel_rfl) (fun _ _ _ h => h) (Or.inl ⟨by rfl, ?_⟩) ?_ ?_
          rotate_left
          · intro w'
            go_simp
            with_reducible rfl
          rotate_left
          · simp only [Act.put, List.setIfInBounds_toArray, List.set_cons_zero, List.set_cons_succ, i64_w, i32_w]
            rfl
          refine pure_ (i := 15) (N := some 20) (v := ?_) (a' := ?_) #[true, true, true, true, true, true, true, true, true, true, true, true, true, true, true, true] rfl rfl (by as_aux_lemma => kernel_rfl) (fun _ _ _ h => h) (Or.inl ⟨by rfl, ?_⟩) ?_ ?_
          rotate_left
          · intro w'
            go_simp
            with_reducible rfl
          rotate_left
          · simp only [Act.put, List.setIfInBounds_toArray, List.set_cons_zero, List.set_cons_succ, i64_w, i32_w]
            rfl
          refine done_ (by as_aux_lemma => kernel_rfl) ?_
          have hX := set14 (S := fun i => i = g) (t := st0) HGx4.out (Turn.refl _ _) rfl v
          have HB7 := Aside0.mk (turn_below HBBx4.out hX.2 HGL.out)
          have HG7 := Aside0.mk hX.1
          have HZ7 := Aside0.mk (Kd.R_reads' (other14 HZx4.out HGx4.out (by decide) v)).2
          clear hX
          go_wp2_with (fail)
          go_meet
          case rel => exact ⟨g, AZ, cz, rfl, rfl, rfl, rfl, HB7, HG7, HZ7⟩
        · skip
          rw [if_pos (by rfl)]
          go_simp
          have HBBx5 := Aside0.mk (id (below_alloc HBBx2.out (.cells #[.int .i64 0, .string ⟨#[]⟩, .string ⟨#[]⟩, .int .u8 0, .int .i64 0, .int .i64 0, .int .i64 0, .int .i64 0, .string ⟨#[]⟩, .int .i64 0, .int .i64 0, .string ⟨#[]⟩, .string ⟨#[]⟩, .string ⟨#[]⟩] 25)))
          have HGx5 := Aside0.mk (id (heap_alloc_new wx2 (.cells #[.int .i64 0, .string ⟨#[]⟩, .string ⟨#[]⟩, .int .u8 0, .int .i64 0, .int .i64 0, .int .i64 0, .int .i64 0, .string ⟨#[]⟩, .int .i64 0, .int .i64 0, .string ⟨#[]⟩, .string ⟨#[]⟩, .string ⟨#[]⟩] 25)))
          have HGL := Aside0.mk (Below.size (HBBx2.out))
          have HCx5 := Aside0.mk (Kd.C_alloc HCx2.out (.cells #[.int .i64 0, .string ⟨#[]⟩, .string ⟨#[]⟩, .int .u8 0, .int .i64 0, .int .i64 0, .int .i64 0, .int .i64 0, .string ⟨#[]⟩, .int .i64 0, .int .i64 0, .string ⟨#[]⟩, .string ⟨#[]⟩, .string ⟨#[]⟩] 25))
          have HLx5 := HLx2
          obtain ⟨q0, q1, q2, q3, q4, q5, q6, q7, q8, q9, q10, q11, q12, q13⟩ := cells14 (blk_below HS6.out HBBx5.out)
          refine hK.out _ _ ⟨q0, q1, q2, q3, q4, q5, q6, q7, q8, q9, q10, q11, q12, q13⟩ (fun hHeld => ?_)
          clear hK K q0 q1 q2 q3 q4 q5 q6 q7 q8 q9 q10 q11 q12 q13
          obtain ⟨wx5, hWa⟩ : ∃ W, (wx2.alloc (.cells #[.int .i64 0, .string ⟨#[]⟩, .string ⟨#[]⟩, .int .u8 0, .int .i64 0, .int .i64 0, .int .i64 0, .int .i64 0, .string ⟨#[]⟩, .int .i64 0, .int .i64 0, .string ⟨#[]⟩, .string ⟨#[]⟩, .string ⟨#[]⟩] 25)) = W := ⟨_, rfl⟩
          rw [hWa] at HBBx5 HGx5 HCx5 hHeld ⊢
          clear hWa
          generalize wx2.heap.size = g at *
          refine one_ (i := 5) (N := some 73) #[true, true, true, true, true, true, false, false, false, false, false, true, false, false, false, false] rfl rfl (by as_aux_lemma => kernel_rfl) (by decide) (fun K hK => ?_)
          refine goes_ Try.func15 (by as_aux_lemma => kernel_rfl) rfl #[.agg #[.int .i64 s.f0, .string s.f1.f0, .string s.f1.f1, .int .u8 s.f1.f2, .int .i64 s.f1.f3, .int .i64 s.f1.f4, .int .i64 s.f1.f5, .int .i64 s.f1.f6, .string s.f1.f7, .int .i64 s.f2, .int .i64 s.f3, .string s.f4, .string s.f5, .string s.f6], .slice A2 mAB c2] (by rfl) rfl rfl (by (try simp only [List.map_toArray, List.map_cons, List.map_nil]); first | done | rfl | (simp only [List.length_drop, List.length_take]; rfl)) ?_
          refine (hrun3 _ _ _ HCx5.out HLx5.out).mono ?_
          rintro e_ wx6 ⟨AZ, cz, rfl, hR, hb_⟩
          have HBBx6 := Aside0.mk (below_step HBBx5.out hb_)
          have HZx6 := hR
          have HGx6 := Aside0.mk (blk_below HGx5.out hb_)
          clear hb_
          refine ⟨_, rfl, ?_⟩
          obtain ⟨q0, q1, q2, q3, q4, q5, q6, q7, q8, q9, q10, q11, q12, q13⟩ := cells14 (blk_below HS6.out HBBx6.out)
          refine hK.out _ _ ⟨q0, q1, q2, q3, q4, q5, q6, q7, q8, q9, q10, q11, q12, q13⟩ (fun hHeld => ?_)
          clear hK K
          refine norm_ (a' := ?_) ?_ ?_
          rotate_left
          · show Act.put _ (some 73) _ = _
            simp only [Act.put, List.setIfInBounds_toArray, List.set_cons_zero, List.set_cons_succ, i64_w, i32_w]
            rfl
          clear q0 q1 q2 q3 q4 q5 q6 q7 q8 q9 q10 q11 q12 q13
          refine pure_ (i := 6) (N := some 67) (v := ?_) (a' := ?_) #[true, true, true, true, true, true, true, false, false, false, false, true, false, false, false, false] rfl rfl (by as_aux_lemma => kernel_rfl) (fun _ _ _ h => h) (Or.inl ⟨by rfl, ?_⟩) ?_ ?_
          rotate_left
          · intro w'
            go_simp
            with_reducible rfl
          rotate_left
          · simp only [Act.put, List.setIfInBounds_toArray, List.set_cons_zero, List.set_cons_succ, i64_w, i32_w]
            rfl
          refine pure_ (i := 7) (N := some 74) (v := ?_) (a' := ?_) #[true, true, true, true, true, true, true, true, false, false, false, true, false, false, false, false] rfl rfl (by as_aux_lemma => kernel_rfl) (fun _ _ _ h => h) (Or.inl ⟨by rfl, ?_⟩) ?_ ?_
          rotate_left
          · intro w'
            go_simp
            with_reducible rfl
          rotate_left
          · simp only [Act.put, List.setIfInBounds_toArray, List.set_cons_zero, List.set_cons_succ, i64_w, i32_w]
            rfl
          refine pure_ (i := 8) (N := some 75) (v := ?_) (a' := ?_) #[true, true, true, true, true, true, true, true, true, false, false, true, false, false, false, false] rfl rfl (by as_aux_lemma => kernel_rfl) (fun _ _ _ h => h) (Or.inl ⟨by rfl, ?_⟩) ?_ ?_
          rotate_left
          · intro w'
            go_simp
            with_reducible rfl
          rotate_left
          · simp only [Act.put, List.setIfInBounds_toArray, List.set_cons_zero, List.set_cons_succ, i64_w, i32_w]
            rfl
          refine pure_ (i := 9) (N := some 76) (v := ?_) (a' := ?_) #[true, true, true, true, true, true, true, true, true, true, false, true, false, false, false, false] rfl rfl (by as_aux_lemma => kernel_rfl) (fun _ _ _ h => h) (Or.inl ⟨by rfl, ?_⟩) ?_ ?_
          rotate_left
          · intro w'
            go_simp
            with_reducible rfl
          rotate_left
          · simp only [Act.put, List.setIfInBounds_toArray, List.set_cons_zero, List.set_cons_succ, i64_w, i32_w]
            rfl
          refine pure_ (i := 10) (N := some 77) (v := ?_) (a' := ?_) #[true, true, true, true, true, true, true, true, true, true, true, true, false, false, false, false] rfl rfl (by as_aux_lemma => kernel_rfl) (fun _ _ _ h => h) (Or.inl ⟨by rfl, ?_⟩) ?_ ?_
          rotate_left
          · intro w'
            go_simp
            with_reducible rfl
          rotate_left
          · simp only [Act.put, List.setIfInBounds_toArray, List.set_cons_zero, List.set_cons_succ, i64_w, i32_w]
            rfl
          obtain ⟨t0, t1, t2, t3, t4, t5, t6, t7, t8, t9, t10, t11, t12, t13⟩ := cells14 HGx6.out
          have y0 := blk_frozen HGx6.out 0
          have y1 := blk_frozen HGx6.out 1
          have y2 := blk_frozen HGx6.out 2
          have y3 := blk_frozen HGx6.out 3
          have y4 := blk_frozen HGx6.out 4
          have y5 := blk_frozen HGx6.out 5
          have y6 := blk_frozen HGx6.out 6
          have y7 := blk_frozen HGx6.out 7
          have y8 := blk_frozen HGx6.out 8
          have y9 := blk_frozen HGx6.out 9
          have y10 := blk_frozen HGx6.out 10
          have y11 := blk_frozen HGx6.out 11
          have y12 := blk_frozen HGx6.out 12
          have y13 := blk_frozen HGx6.out 13
          refine last_ (i := 12) (N := none) #[true, true, true, true, true, true, true, true, true, true, true, true, true, false, false, false] rfl rfl (by as_aux_lemma => kernel_rfl) (by decide) (fun K hK => ?_)
          rw [if_pos (by rfl)]
          go_simp
          refine hK.out _ _ ?_
          clear hK K
          refine pure_ (i := 13) (N := some 18) (v := ?_) (a' := ?_) #[true, true, true, true, true, true, true, true, true, true, true, true, true, true, false, false] rfl rfl (by as_aux_lemma => kernel_rfl) (fun _ _ _ h => h) (Or.inl ⟨by rfl, ?_⟩) ?_ ?_
          rotate_left
          · intro w'
            go_simp
            with_reducible rfl
          rotate_left
          · simp only [Act.put, List.setIfInBounds_toArray, List.set_cons_zero, List.set_cons_succ, i64_w, i32_w]
            rfl
          refine pure_ (i := 14) (N := some 19) (v := ?_) (a' := ?_) #[true, true, true, true, true, true, true, true, true, true, true, true, true, true, true, false] rfl rfl (by as_aux_lemma => kernel_rfl) (fun _ _ _ h => h) (Or.inl ⟨by rfl, ?_⟩) ?_ ?_
          rotate_left
          · intro w'
            go_simp
            with_reducible rfl
          rotate_left
          · simp only [Act.put, List.setIfInBounds_toArray, List.set_cons_zero, List.set_cons_succ, i64_w, i32_w]
            rfl
          refine pure_ (i := 15) (N := some 20) (v := ?_) (a' := ?_) #[true, true, true, true, true, true, true, true, true, true, true, true, true, true, true, true] rfl rfl (by as_aux_lemma => kernel_rfl) (fun _ _ _ h => h) (Or.inl ⟨by rfl, ?_⟩) ?_ ?_
          rotate_left
          · intro w'
            go_simp
            with_reducible rfl
          rotate_left
          · simp only [Act.put, List.setIfInBounds_toArray, List.set_cons_zero, List.set_cons_succ, i64_w, i32_w]
            rfl
          refine done_ (by as_aux_lemma => kernel_rfl) ?_
          have hX := set14 (S := fun i => i = g) (t := st0) HGx6.out (Turn.refl _ _) rfl v
          have HB7 := Aside0.mk (turn_below HBBx6.out hX.2 HGL.out)
          have HG7 := Aside0.mk hX.1
          have HZ7 := Aside0.mk (Kd.R_reads' (other14 HZx6.out HGx6.out (by decide) v)).2
          clear hX
          go_wp2_with (fail)
          go_meet
          case rel => exact ⟨g, AZ, cz, rfl, rfl, rfl, rfl, HB7, HG7, HZ7⟩
      · skip
        rw [if_pos (by rfl)]
        go_simp
        have HBBx7 := Aside0.mk (id (below_alloc HBBx1.out (.cells #[.int .i64 0, .string ⟨#[]⟩, .string ⟨#[]⟩, .int .u8 0, .int .i64 0, .int .i64 0, .int .i64 0, .int .i64 0, .string ⟨#[]⟩, .int .i64 0, .int .i64 0, .string ⟨#[]⟩, .string ⟨#[]⟩, .string ⟨#[]⟩] 25)))
        have HGx7 := Aside0.mk (id (heap_alloc_new wx1 (.cells #[.int .i64 0, .string ⟨#[]⟩, .string ⟨#[]⟩, .int .u8 0, .int .i64 0, .int .i64 0, .int .i64 0, .int .i64 0, .string ⟨#[]⟩, .int .i64 0, .int .i64 0, .string ⟨#[]⟩, .string ⟨#[]⟩, .string ⟨#[]⟩] 25)))
        have HGL := Aside0.mk (Below.size (HBBx1.out))
        have HOx7 := Aside0.mk (Kd.R_alloc HOx1.out (.cells #[.int .i64 0, .string ⟨#[]⟩, .string ⟨#[]⟩, .int .u8 0, .int .i64 0, .int .i64 0, .int .i64 0, .int .i64 0, .string ⟨#[]⟩, .int .i64 0, .int .i64 0, .string ⟨#[]⟩, .string ⟨#[]⟩, .string ⟨#[]⟩] 25))
        obtain ⟨q0, q1, q2, q3, q4, q5, q6, q7, q8, q9, q10, q11, q12, q13⟩ := cells14 (blk_below HS6.out HBBx7.out)
        refine hK.out _ _ ⟨q0, q1, q2, q3, q4, q5, q6, q7, q8, q9, q10, q11, q12, q13⟩ (fun hHeld => ?_)
        clear hK K q0 q1 q2 q3 q4 q5 q6 q7 q8 q9 q10 q11 q12 q13
        obtain ⟨wx7, hWa⟩ : ∃ W, (wx1.alloc (.cells #[.int .i64 0, .string ⟨#[]⟩, .string ⟨#[]⟩, .int .u8 0, .int .i64 0, .int .i64 0, .int .i64 0, .int .i64 0, .string ⟨#[]⟩, .int .i64 0, .int .i64 0, .string ⟨#[]⟩, .string ⟨#[]⟩, .string ⟨#[]⟩] 25)) = W := ⟨_, rfl⟩
        rw [hWa] at HBBx7 HGx7 HOx7 hHeld ⊢
        clear hWa
        generalize wx1.heap.size = g at *
        refine one_ (i := 4) (N := some 72) #[true, true, true, true, true, false, false, false, false, false, false, true, false, false, false, false] rfl rfl (by as_aux_lemma => kernel_rfl) (by decide) (fun K hK => ?_)
        refine Kd.R_append_rows_step kTr (w0 := W6) W6.heap.size (by rfl) (.tmp 70) (.tmp 71) 34 26 (.slice none 0 0) 24 (by rfl) Try.underlying34 info26 rfl (by decide) (by decide) _ ts us B nB cB (fun _ => True) (fun _ => False) (by rfl) (by rfl) HOx7.out (Kd.C_below HUS.out HBBx7.out) (fun _ _ h => h) (fun _ h => h.elim) (fun _ _ => trivial) HBBx7.out (Below.size HBBx7.out) (by have h_ := HNA.out; have h2 := HTL.out; omega) ?_
        intro v1 wx8 hO hB hg hat
        obtain ⟨A2, c2, rfl, hc2, hC2⟩ := Kd.R_reads hO
        have hC2 := rows_join hC2 (forall_app (forall_below hB HFT.out) (forall_below hB HFU.out))
        rw [HM5T.out] at hC2 hc2 ⊢
        have HBBx8 := Aside0.mk hB
        have HCx8 := Aside0.mk hC2
        have HLx8 := Aside0.mk hc2
        have HGx8 := Aside0.mk ((hg.block g (blk_lt HGx7.out) (own_tr HOx7.out HGx7.out (by decide))).trans HGx7.out)
        clear hO hB hg hat hC2 hc2
        obtain ⟨q0, q1, q2, q3, q4, q5, q6, q7, q8, q9, q10, q11, q12, q13⟩ := cells14 (blk_below HS6.out HBBx8.out)
        refine hK.out _ _ ⟨q0, q1, q2, q3, q4, q5, q6, q7, q8, q9, q10, q11, q12, q13⟩ (fun hHeld => ?_)
        clear hK K
        refine norm_ (a' := ?_) ?_ ?_
        rotate_left
        · show Act.put _ (some 72) _ = _
          simp only [Act.put, List.setIfInBounds_toArray, List.set_cons_zero, List.set_cons_succ, i64_w, i32_w]
          rfl
        clear q0 q1 q2 q3 q4 q5 q6 q7 q8 q9 q10 q11 q12 q13
        refine one_ (i := 5) (N := some 73) #[true, true, true, true, true, true, false, false, false, false, false, true, false, false, false, false] rfl rfl (by as_aux_lemma => kernel_rfl) (by decide) (fun K hK => ?_)
        refine goes_ Try.func15 (by as_aux_lemma => kernel_rfl) rfl #[.agg #[.int .i64 s.f0, .string s.f1.f0, .string s.f1.f1, .int .u8 s.f1.f2, .int .i64 s.f1.f3, .int .i64 s.f1.f4, .int .i64 s.f1.f5, .int .i64 s.f1.f6, .string s.f1.f7, .int .i64 s.f2, .int .i64 s.f3, .string s.f4, .string s.f5, .string s.f6], .slice A2 mAB c2] (by rfl) rfl rfl (by (try simp only [List.map_toArray, List.map_cons, List.map_nil]); first | done | rfl | (simp only [List.length_drop, List.length_take]; rfl)) ?_
        refine (hrun3 _ _ _ HCx8.out HLx8.out).mono ?_
        rintro e_ wx9 ⟨AZ, cz, rfl, hR, hb_⟩
        have HBBx9 := Aside0.mk (below_step HBBx8.out hb_)
        have HZx9 := hR
        have HGx9 := Aside0.mk (blk_below HGx8.out hb_)
        clear hb_
        refine ⟨_, rfl, ?_⟩
        obtain ⟨q0, q1, q2, q3, q4, q5, q6, q7, q8, q9, q10, q11, q12, q13⟩ := cells14 (blk_below HS6.out HBBx9.out)
        refine hK.out _ _ ⟨q0, q1, q2, q3, q4, q5, q6, q7, q8, q9, q10, q11, q12, q13⟩ (fun hHeld => ?_)
        clear hK K
        refine norm_ (a' := ?_) ?_ ?_
        rotate_left
        · show Act.put _ (some 73) _ = _
          simp only [Act.put, List.setIfInBounds_toArray, List.set_cons_zero, List.set_cons_succ, i64_w, i32_w]
          rfl
        clear q0 q1 q2 q3 q4 q5 q6 q7 q8 q9 q10 q11 q12 q13
        refine pure_ (i := 6) (N := some 67) (v := ?_) (a' := ?_) #[true, true, true, true, true, true, true, false, false, false, false, true, false, false, false, false] rfl rfl (by as_aux_lemma => kernel_rfl) (fun _ _ _ h => h) (Or.inl ⟨by rfl, ?_⟩) ?_ ?_
        rotate_left
        · intro w'
          go_simp
          with_reducible rfl
        rotate_left
        · simp only [Act.put, List.setIfInBounds_toArray, List.set_cons_zero, List.set_cons_succ, i64_w, i32_w]
          rfl
        refine pure_ (i := 7) (N := some 74) (v := ?_) (a' := ?_) #[true, true, true, true, true, true, true, true, false, false, false, true, false, false, false, false] rfl rfl (by as_aux_lemma => kernel_rfl) (fun _ _ _ h => h) (Or.inl ⟨by rfl, ?_⟩) ?_ ?_
        rotate_left
        · intro w'
          go_simp
          with_reducible rfl
        rotate_left
        · simp only [Act.put, List.setIfInBounds_toArray, List.set_cons_zero, List.set_cons_succ, i64_w, i32_w]
          rfl
        refine pure_ (i := 8) (N := some 75) (v := ?_) (a' := ?_) #[true, true, true, true, true, true, true, true, true, false, false, true, false, false, false, false] rfl rfl (by as_aux_lemma => kernel_rfl) (fun _ _ _ h => h) (Or.inl ⟨by rfl, ?_⟩) ?_ ?_
        rotate_left
        · intro w'
          go_simp
          with_reducible rfl
        rotate_left
        · simp only [Act.put, List.setIfInBounds_toArray, List.set_cons_zero, List.set_cons_succ, i64_w, i32_w]
          rfl
        refine pure_ (i := 9) (N := some 76) (v := ?_) (a' := ?_) #[true, true, true, true, true, true, true, true, true, true, false, true, false, false, false, false] rfl rfl (by as_aux_lemma => kernel_rfl) (fun _ _ _ h => h) (Or.inl ⟨by rfl, ?_⟩) ?_ ?_
        rotate_left
        · intro w'
          go_simp
          with_reducible rfl
        rotate_left
        · simp only [Act.put, List.setIfInBounds_toArray, List.set_cons_zero, List.set_cons_succ, i64_w, i32_w]
          rfl
        refine pure_ (i := 10) (N := some 77) (v := ?_) (a' := ?_) #[true, true, true, true, true, true, true, true, true, true, true, true, false, false, false, false] rfl rfl (by as_aux_lemma => kernel_rfl) (fun _ _ _ h => h) (Or.inl ⟨by rfl, ?_⟩) ?_ ?_
        rotate_left
        · intro w'
          go_simp
          with_reducible rfl
        rotate_left
        · simp only [Act.put, List.setIfInBounds_toArray, List.set_cons_zero, List.set_cons_succ, i64_w, i32_w]
          rfl
        obtain ⟨t0, t1, t2, t3, t4, t5, t6, t7, t8, t9, t10, t11, t12, t13⟩ := cells14 HGx9.out
        have y0 := blk_frozen HGx9.out 0
        have y1 := blk_frozen HGx9.out 1
        have y2 := blk_frozen HGx9.out 2
        have y3 := blk_frozen HGx9.out 3
        have y4 := blk_frozen HGx9.out 4
        have y5 := blk_frozen HGx9.out 5
        have y6 := blk_frozen HGx9.out 6
        have y7 := blk_frozen HGx9.out 7
        have y8 := blk_frozen HGx9.out 8
        have y9 := blk_frozen HGx9.out 9
        have y10 := blk_frozen HGx9.out 10
        have y11 := blk_frozen HGx9.out 11
        have y12 := blk_frozen HGx9.out 12
        have y13 := blk_frozen HGx9.out 13
        refine last_ (i := 12) (N := none) #[true, true, true, true, true, true, true, true, true, true, true, true, true, false, false, false] rfl rfl (by as_aux_lemma => kernel_rfl) (by decide) (fun K hK => ?_)
        rw [if_pos (by rfl)]
        go_simp
        refine hK.out _ _ ?_
        clear hK K
        refine pure_ (i := 13) (N := some 18) (v := ?_) (a' := ?_) #[true, true, true, true, true, true, true, true, true, true, true, true, true, true, false, false] rfl rfl (by as_aux_lemma => kernel_rfl) (fun _ _ _ h => h) (Or.inl ⟨by rfl, ?_⟩) ?_ ?_
        rotate_left
        · intro w'
          go_simp
          with_reducible rfl
        rotate_left
        · simp only [Act.put, List.setIfInBounds_toArray, List.set_cons_zero, List.set_cons_succ, i64_w, i32_w]
          rfl
        refine pure_ (i := 14) (N := some 19) (v := ?_) (a' := ?_) #[true, true, true, true, true, true, true, true, true, true, true, true, true, true, true, false] rfl rfl (by as_aux_lemma => kernel_rfl) (fun _ _ _ h => h) (Or.inl ⟨by rfl, ?_⟩) ?_ ?_
        rotate_left
        · intro w'
          go_simp
          with_reducible rfl
        rotate_left
        · simp only [Act.put, List.setIfInBounds_toArray, List.set_cons_zero, List.set_cons_succ, i64_w, i32_w]
          rfl
        refine pure_ (i := 15) (N := some 20) (v := ?_) (a' := ?_) #[true, true, true, true, true, true, true, true, true, true, true, true, true, true, true, true] rfl rfl (by as_aux_lemma => kernel_rfl) (fun _ _ _ h => h) (Or.inl ⟨by rfl, ?_⟩) ?_ ?_
        rotate_left
        · intro w'
          go_simp
          with_reducible rfl
        rotate_left
        · simp only [Act.put, List.setIfInBounds_toArray, List.set_cons_zero, List.set_cons_succ, i64_w, i32_w]
          rfl
        refine done_ (by as_aux_lemma => kernel_rfl) ?_
        have hX := set14 (S := fun i => i = g) (t := st0) HGx9.out (Turn.refl _ _) rfl v
        have HB7 := Aside0.mk (turn_below HBBx9.out hX.2 HGL.out)
        have HG7 := Aside0.mk hX.1
        have HZ7 := Aside0.mk (Kd.R_reads' (other14 HZx9.out HGx9.out (by decide) v)).2
        clear hX
        go_wp2_with (fail)
        go_meet
        case rel => exact ⟨g, AZ, cz, rfl, rfl, rfl, rfl, HB7, HG7, HZ7⟩
    · skip
      rw [if_pos (by rfl)]
      go_simp
      have HBBx10 := Aside0.mk (below_drew1 (below_alloc (Below.refl W6.heap.size W6) (.cells #[.int .i64 0, .string ⟨#[]⟩, .string ⟨#[]⟩, .int .u8 0, .int .i64 0, .int .i64 0, .int .i64 0, .int .i64 0, .string ⟨#[]⟩, .int .i64 0, .int .i64 0, .string ⟨#[]⟩, .string ⟨#[]⟩, .string ⟨#[]⟩] 25)))
      have HGx10 := Aside0.mk (blk_drew (heap_alloc_new W6 (.cells #[.int .i64 0, .string ⟨#[]⟩, .string ⟨#[]⟩, .int .u8 0, .int .i64 0, .int .i64 0, .int .i64 0, .int .i64 0, .string ⟨#[]⟩, .int .i64 0, .int .i64 0, .string ⟨#[]⟩, .string ⟨#[]⟩, .string ⟨#[]⟩] 25)))
      have HGL := Aside0.mk (Below.size (Below.refl W6.heap.size W6))
      obtain ⟨q0, q1, q2, q3, q4, q5, q6, q7, q8, q9, q10, q11, q12, q13⟩ := cells14 (blk_below HS6.out HBBx10.out)
      refine hK.out _ _ ⟨q0, q1, q2, q3, q4, q5, q6, q7, q8, q9, q10, q11, q12, q13⟩ (fun hHeld => ?_)
      clear hK K q0 q1 q2 q3 q4 q5 q6 q7 q8 q9 q10 q11 q12 q13
      obtain ⟨wx10, hWa⟩ : ∃ W, (W6.alloc (.cells #[.int .i64 0, .string ⟨#[]⟩, .string ⟨#[]⟩, .int .u8 0, .int .i64 0, .int .i64 0, .int .i64 0, .int .i64 0, .string ⟨#[]⟩, .int .i64 0, .int .i64 0, .string ⟨#[]⟩, .string ⟨#[]⟩, .string ⟨#[]⟩] 25)).drew = W := ⟨_, rfl⟩
      rw [hWa] at HBBx10 HGx10  hHeld ⊢
      clear hWa
      clear HGL
      obtain ⟨g, hge⟩ : ∃ g, W6.heap.size = g := ⟨_, rfl⟩
      rw [hge] at HGx10 ⊢
      have HGL := Aside0.mk (Nat.le_of_eq hge)
      clear hge
      refine one_ (i := 2) (N := some 70) #[true, true, true, true, false, false, false, false, false, false, false, true, false, false, false, false] rfl rfl (by as_aux_lemma => kernel_rfl) (by decide) (fun K hK => ?_)
      refine Kd.R_append_rows_step kTr (w0 := W6) W6.heap.size (by rfl) (.const (.slice none 0 0)) (.tmp 69) 34 26 (.slice none 0 0) 24 (by rfl) Try.underlying34 info26 rfl (by decide) (by decide) _ [] ts A nA cA (fun _ => True) (fun _ => False) (by rfl) (by rfl) (Kd.R_nil _ _ _ _ _) (Kd.C_below HTS.out HBBx10.out) (fun _ _ h => h) (fun _ h => h.elim) (fun _ _ => trivial) HBBx10.out (Below.size HBBx10.out) (by have h_ := HNA.out; simp; omega) ?_
      intro v1 wx11 hO hB hg hat
      obtain ⟨A1, c1, rfl⟩ := Kd.R_slice hO
      simp only [List.nil_append] at hO
      simp only [List.nil_append]
      have HBBx11 := Aside0.mk hB
      have HOx11 := Aside0.mk hO
      have HGx11 := Aside0.mk ((hg.block g (blk_lt HGx10.out) (fun e => nomatch e)).trans HGx10.out)
      clear hO hB hg hat
      obtain ⟨q0, q1, q2, q3, q4, q5, q6, q7, q8, q9, q10, q11, q12, q13⟩ := cells14 (blk_below HS6.out HBBx11.out)
      refine hK.out _ _ ⟨q0, q1, q2, q3, q4, q5, q6, q7, q8, q9, q10, q11, q12, q13⟩ (fun hHeld => ?_)
      clear hK K
      refine norm_ (a' := ?_) ?_ ?_
      rotate_left
      · show Act.put _ (some 70) _ = _
        simp only [Act.put, List.setIfInBounds_toArray, List.set_cons_zero, List.set_cons_succ, i64_w, i32_w]
        rfl
      clear q0 q1 q2 q3 q4 q5 q6 q7 q8 q9 q10 q11 q12 q13
      refine one_ (i := 4) (N := some 72) #[true, true, true, true, true, false, false, false, false, false, false, true, false, false, false, false] rfl rfl (by as_aux_lemma => kernel_rfl) (by decide) (fun K hK => ?_)
      refine Kd.R_append_rows_step kTr (w0 := W6) W6.heap.size (by rfl) (.tmp 70) (.tmp 71) 34 26 (.slice none 0 0) 24 (by rfl) Try.underlying34 info26 rfl (by decide) (by decide) _ ts us B nB cB (fun _ => True) (fun _ => False) (by rfl) (by rfl) HOx11.out (Kd.C_below HUS.out HBBx11.out) (fun _ _ h => h) (fun _ h => h.elim) (fun _ _ => trivial) HBBx11.out (Below.size HBBx11.out) (by have h_ := HNA.out; have h2 := HTL.out; omega) ?_
      intro v1 wx12 hO hB hg hat
      obtain ⟨A2, c2, rfl, hc2, hC2⟩ := Kd.R_reads hO
      have hC2 := rows_join hC2 (forall_app (forall_below hB HFT.out) (forall_below hB HFU.out))
      rw [HM5T.out] at hC2 hc2 ⊢
      have HBBx12 := Aside0.mk hB
      have HCx12 := Aside0.mk hC2
      have HLx12 := Aside0.mk hc2
      have HGx12 := Aside0.mk ((hg.block g (blk_lt HGx11.out) (own_tr HOx11.out HGx11.out (by decide))).trans HGx11.out)
      clear hO hB hg hat hC2 hc2
      obtain ⟨q0, q1, q2, q3, q4, q5, q6, q7, q8, q9, q10, q11, q12, q13⟩ := cells14 (blk_below HS6.out HBBx12.out)
      refine hK.out _ _ ⟨q0, q1, q2, q3, q4, q5, q6, q7, q8, q9, q10, q11, q12, q13⟩ (fun hHeld => ?_)
      clear hK K
      refine norm_ (a' := ?_) ?_ ?_
      rotate_left
      · show Act.put _ (some 72) _ = _
        simp only [Act.put, List.setIfInBounds_toArray, List.set_cons_zero, List.set_cons_succ, i64_w, i32_w]
        rfl
      clear q0 q1 q2 q3 q4 q5 q6 q7 q8 q9 q10 q11 q12 q13
      refine one_ (i := 5) (N := some 73) #[true, true, true, true, true, true, false, false, false, false, false, true, false, false, false, false] rfl rfl (by as_aux_lemma => kernel_rfl) (by decide) (fun K hK => ?_)
      refine goes_ Try.func15 (by as_aux_lemma => kernel_rfl) rfl #[.agg #[.int .i64 s.f0, .string s.f1.f0, .string s.f1.f1, .int .u8 s.f1.f2, .int .i64 s.f1.f3, .int .i64 s.f1.f4, .int .i64 s.f1.f5, .int .i64 s.f1.f6, .string s.f1.f7, .int .i64 s.f2, .int .i64 s.f3, .string s.f4, .string s.f5, .string s.f6], .slice A2 mAB c2] (by rfl) rfl rfl (by (try simp only [List.map_toArray, List.map_cons, List.map_nil]); first | done | rfl | (simp only [List.length_drop, List.length_take]; rfl)) ?_
      refine (hrun3 _ _ _ HCx12.out HLx12.out).mono ?_
      rintro e_ wx13 ⟨AZ, cz, rfl, hR, hb_⟩
      have HBBx13 := Aside0.mk (below_step HBBx12.out hb_)
      have HZx13 := hR
      have HGx13 := Aside0.mk (blk_below HGx12.out hb_)
      clear hb_
      refine ⟨_, rfl, ?_⟩
      obtain ⟨q0, q1, q2, q3, q4, q5, q6, q7, q8, q9, q10, q11, q12, q13⟩ := cells14 (blk_below HS6.out HBBx13.out)
      refine hK.out _ _ ⟨q0, q1, q2, q3, q4, q5, q6, q7, q8, q9, q10, q11, q12, q13⟩ (fun hHeld => ?_)
      clear hK K
      refine norm_ (a' := ?_) ?_ ?_
      rotate_left
      · show Act.put _ (some 73) _ = _
        simp only [Act.put, List.setIfInBounds_toArray, List.set_cons_zero, List.set_cons_succ, i64_w, i32_w]
        rfl
      clear q0 q1 q2 q3 q4 q5 q6 q7 q8 q9 q10 q11 q12 q13
      refine pure_ (i := 6) (N := some 67) (v := ?_) (a' := ?_) #[true, true, true, true, true, true, true, false, false, false, false, true, false, false, false, false] rfl rfl (by as_aux_lemma => kernel_rfl) (fun _ _ _ h => h) (Or.inl ⟨by rfl, ?_⟩) ?_ ?_
      rotate_left
      · intro w'
        go_simp
        with_reducible rfl
      rotate_left
      · simp only [Act.put, List.setIfInBounds_toArray, List.set_cons_zero, List.set_cons_succ, i64_w, i32_w]
        rfl
      refine pure_ (i := 7) (N := some 74) (v := ?_) (a' := ?_) #[true, true, true, true, true, true, true, true, false, false, false, true, false, false, false, false] rfl rfl (by as_aux_lemma => kernel_rfl) (fun _ _ _ h => h) (Or.inl ⟨by rfl, ?_⟩) ?_ ?_
      rotate_left
      · intro w'
        go_simp
        with_reducible rfl
      rotate_left
      · simp only [Act.put, List.setIfInBounds_toArray, List.set_cons_zero, List.set_cons_succ, i64_w, i32_w]
        rfl
      refine pure_ (i := 8) (N := some 75) (v := ?_) (a' := ?_) #[true, true, true, true, true, true, true, true, true, false, false, true, false, false, false, false] rfl rfl (by as_aux_lemma => kernel_rfl) (fun _ _ _ h => h) (Or.inl ⟨by rfl, ?_⟩) ?_ ?_
      rotate_left
      · intro w'
        go_simp
        with_reducible rfl
      rotate_left
      · simp only [Act.put, List.setIfInBounds_toArray, List.set_cons_zero, List.set_cons_succ, i64_w, i32_w]
        rfl
      refine pure_ (i := 9) (N := some 76) (v := ?_) (a' := ?_) #[true, true, true, true, true, true, true, true, true, true, false, true, false, false, false, false] rfl rfl (by as_aux_lemma => kernel_rfl) (fun _ _ _ h => h) (Or.inl ⟨by rfl, ?_⟩) ?_ ?_
      rotate_left
      · intro w'
        go_simp
        with_reducible rfl
      rotate_left
      · simp only [Act.put, List.setIfInBounds_toArray, List.set_cons_zero, List.set_cons_succ, i64_w, i32_w]
        rfl
      refine pure_ (i := 10) (N := some 77) (v := ?_) (a' := ?_) #[true, true, true, true, true, true, true, true, true, true, true, true, false, false, false, false] rfl rfl (by as_aux_lemma => kernel_rfl) (fun _ _ _ h => h) (Or.inl ⟨by rfl, ?_⟩) ?_ ?_
      rotate_left
      · intro w'
        go_simp
        with_reducible rfl
      rotate_left
      · simp only [Act.put, List.setIfInBounds_toArray, List.set_cons_zero, List.set_cons_succ, i64_w, i32_w]
        rfl
      obtain ⟨t0, t1, t2, t3, t4, t5, t6, t7, t8, t9, t10, t11, t12, t13⟩ := cells14 HGx13.out
      have y0 := blk_frozen HGx13.out 0
      have y1 := blk_frozen HGx13.out 1
      have y2 := blk_frozen HGx13.out 2
      have y3 := blk_frozen HGx13.out 3
      have y4 := blk_frozen HGx13.out 4
      have y5 := blk_frozen HGx13.out 5
      have y6 := blk_frozen HGx13.out 6
      have y7 := blk_frozen HGx13.out 7
      have y8 := blk_frozen HGx13.out 8
      have y9 := blk_frozen HGx13.out 9
      have y10 := blk_frozen HGx13.out 10
      have y11 := blk_frozen HGx13.out 11
      have y12 := blk_frozen HGx13.out 12
      have y13 := blk_frozen HGx13.out 13
      refine last_ (i := 12) (N := none) #[true, true, true, true, true, true, true, true, true, true, true, true, true, false, false, false] rfl rfl (by as_aux_lemma => kernel_rfl) (by decide) (fun K hK => ?_)
      rw [if_pos (by rfl)]
      go_simp
      refine hK.out _ _ ?_
      clear hK K
      refine pure_ (i := 13) (N := some 18) (v := ?_) (a' := ?_) #[true, true, true, true, true, true, true, true, true, true, true, true, true, true, false, false] rfl rfl (by as_aux_lemma => kernel_rfl) (fun _ _ _ h => h) (Or.inl ⟨by rfl, ?_⟩) ?_ ?_
      rotate_left
      · intro w'
        go_simp
        with_reducible rfl
      rotate_left
      · simp only [Act.put, List.setIfInBounds_toArray, List.set_cons_zero, List.set_cons_succ, i64_w, i32_w]
        rfl
      refine pure_ (i := 14) (N := some 19) (v := ?_) (a' := ?_) #[true, true, true, true, true, true, true, true, true, true, true, true, true, true, true, false] rfl rfl (by as_aux_lemma => kernel_rfl) (fun _ _ _ h => h) (Or.inl ⟨by rfl, ?_⟩) ?_ ?_
      rotate_left
      · intro w'
        go_simp
        with_reducible rfl
      rotate_left
      · simp only [Act.put, List.setIfInBounds_toArray, List.set_cons_zero, List.set_cons_succ, i64_w, i32_w]
        rfl
      refine pure_ (i := 15) (N := some 20) (v := ?_) (a' := ?_) #[true, true, true, true, true, true, true, true, true, true, true, true, true, true, true, true] rfl rfl (by as_aux_lemma => kernel_rfl) (fun _ _ _ h => h) (Or.inl ⟨by rfl, ?_⟩) ?_ ?_
      rotate_left
      · intro w'
        go_simp
        with_reducible rfl
      rotate_left
      · simp only [Act.put, List.setIfInBounds_toArray, List.set_cons_zero, List.set_cons_succ, i64_w, i32_w]
        rfl
      refine done_ (by as_aux_lemma => kernel_rfl) ?_
      have hX := set14 (S := fun i => i = g) (t := st0) HGx13.out (Turn.refl _ _) rfl v
      have HB7 := Aside0.mk (turn_below HBBx13.out hX.2 HGL.out)
      have HG7 := Aside0.mk hX.1
      have HZ7 := Aside0.mk (Kd.R_reads' (other14 HZx13.out HGx13.out (by decide) v)).2
      clear hX
      go_wp2_with (fail)
      go_meet
      case rel => exact ⟨g, AZ, cz, rfl, rfl, rfl, rfl, HB7, HG7, HZ7⟩
  case rest =>
    obtain ⟨g, AZ, cz, rfl, rfl, rfl, rfl, HB7, HG7, HZ7⟩ := hcut
    have HX7 := Aside0.mk (And.intro HX6.out.1 (Kd.C_below HX6.out.2 HB7.out))
    have HY7 := Aside0.mk (And.intro HY6.out.1 (Kd.C_below HY6.out.2 HB7.out))
    have HT7 := Aside0.mk (blk_below HT6.out HB7.out)
    have HU7 := Aside0.mk (blk_below HU6.out HB7.out)
    have HBw := Aside0.mk (below_step HB6.out HB7.out)
    clear HB6 HB7 HS6 HT6 HU6 HX6 HY6 HTS HUS HFT HFU HM5T HTL hrun3 z0_6 z1_6 z2_6 z3_6 z4_6 z5_6 z6_6 z7_6 z8_6 z9_6 z10_6 z11_6 z12_6 z13_6
    obtain ⟨t0_7, t1_7, t2_7, t3_7, t4_7, t5_7, t6_7, t7_7, t8_7, t9_7, t10_7, t11_7, t12_7, t13_7⟩ := cells14 HT7.out
    obtain ⟨u0_7, u1_7, u2_7, u3_7, u4_7, u5_7, u6_7, u7_7, u8_7, u9_7, u10_7, u11_7, u12_7, u13_7⟩ := cells14 HU7.out
    obtain ⟨v0_7, v1_7, v2_7, v3_7, v4_7, v5_7, v6_7, v7_7, v8_7, v9_7, v10_7, v11_7, v12_7, v13_7⟩ := cells14 HG7.out
    by_cases hcc : e1 ≠ 0 ∨ (t.f0 = 5 ∧ 0 < n)
    · have hap := HAP.out
      rw [if_pos hcc] at hap
      have hv_ := (Prod.mk.inj hap).1
      have hz_ := (Prod.mk.inj (Prod.mk.inj hap).2).1
      have hk_ := (Prod.mk.inj (Prod.mk.inj (Prod.mk.inj hap).2).2).1
      have he_ := (Prod.mk.inj (Prod.mk.inj (Prod.mk.inj hap).2).2).2
      clear hap HAP
      subst hv_
      subst hz_
      subst hk_
      subst he_
      obtain ⟨ks, hks⟩ := Ev.rounds (ev_self z (by have h_ := HXL.out; omega))
      have hsame := fun W h0 h1 h2 h3 => parse_Same.calls ks AZ cz z AX cx z true W h0 h1 h2 h3 hks
      have heq : ∀ (d : Nat) (W : World), (Op.equalIn (d + 3) 25 (.agg #[.int .i64 v.f0, .string v.f1.f0, .string v.f1.f1, .int .u8 v.f1.f2, .int .i64 v.f1.f3, .int .i64 v.f1.f4, .int .i64 v.f1.f5, .int .i64 v.f1.f6, .string v.f1.f7, .int .i64 v.f2, .int .i64 v.f3, .string v.f4, .string v.f5, .string v.f6]) (.agg #[.int .i64 v.f0, .string v.f1.f0, .string v.f1.f1, .int .u8 v.f1.f2, .int .i64 v.f1.f3, .int .i64 v.f1.f4, .int .i64 v.f1.f5, .int .i64 v.f1.f6, .string v.f1.f7, .int .i64 v.f2, .int .i64 v.f3, .string v.f4, .string v.f5, .string v.f6])).run Try.prog W = .ok true W := fun d W => (st_eq d W v v).trans (by rw [eqSt_self])
      by_cases h0 : e3 = 0
      · subst h0
        obtain ⟨h5, hn⟩ := hcc.resolve_left (fun h => h rfl)
        have b5 : (v.f0 == 5) = true := beq_iff_eq.2 h5
        have b7 : decide ((k : Int) > 0) = true := decide_eq_true (by omega)
        have b8 : decide ((0 : Int) < (k : Int)) = true := decide_eq_true (by omega)
        have b9 : decide (0 < k) = true := decide_eq_true hn
        clear hcc h5 hn hks
        go_wp2_with (go_at_call 19; refine (hsame _ HZ7.out.2 HZ7.out.1 HX7.out.2 HX7.out.1).mono ?_; rintro e_ w8 ⟨rfl, hd_⟩; have HB8 := Aside0.mk (below_step HBw.out (Drawn0.below hd_)); clear hd_)
        go_ret
        exact ⟨by simp, HB8.out⟩
      · have b0 : (e3 != 0) = true := by simp only [bne, beq_eq_false_iff_ne.2 h0]; rfl
        clear hcc h0 hks
        go_wp2_with (go_at_call 19; refine (hsame _ HZ7.out.2 HZ7.out.1 HX7.out.2 HX7.out.1).mono ?_; rintro e_ w8 ⟨rfl, hd_⟩; have HB8 := Aside0.mk (below_step HBw.out (Drawn0.below hd_)); clear hd_)
        go_ret
        exact ⟨by simp, HB8.out⟩
    · have hap := HAP.out
      rw [if_neg hcc] at hap
      have hv_ := (Prod.mk.inj hap).1
      have hz := (Prod.mk.inj (Prod.mk.inj hap).2).1
      have hk := (Prod.mk.inj (Prod.mk.inj (Prod.mk.inj hap).2).2).1
      have he_ := (Prod.mk.inj (Prod.mk.inj (Prod.mk.inj hap).2).2).2
      clear hap HAP
      subst hv_
      subst he_
      obtain ⟨ks, hks⟩ := Ev.rounds (ev_self z (by have h_ := HXL.out; rw [hz, List.length_append]; omega))
      have hsame := fun W A c h0 h1 h2 h3 => parse_Same.calls ks AZ cz z A c z true W h0 h1 h2 h3 hks
      have heq : ∀ (d : Nat) (W : World), (Op.equalIn (d + 3) 25 (.agg #[.int .i64 v.f0, .string v.f1.f0, .string v.f1.f1, .int .u8 v.f1.f2, .int .i64 v.f1.f3, .int .i64 v.f1.f4, .int .i64 v.f1.f5, .int .i64 v.f1.f6, .string v.f1.f7, .int .i64 v.f2, .int .i64 v.f3, .string v.f4, .string v.f5, .string v.f6]) (.agg #[.int .i64 v.f0, .string v.f1.f0, .string v.f1.f1, .int .u8 v.f1.f2, .int .i64 v.f1.f3, .int .i64 v.f1.f4, .int .i64 v.f1.f5, .int .i64 v.f1.f6, .string v.f1.f7, .int .i64 v.f2, .int .i64 v.f3, .string v.f4, .string v.f5, .string v.f6])).run Try.prog W = .ok true W := fun d W => (st_eq d W v v).trans (by rw [eqSt_self])
      have h0 : e1 = 0 := Classical.byContradiction fun h => hcc (.inl h)
      subst h0
      have hw : IntKind.i64.wrap ((n : Int) + (m : Int)) = (k : Int) := by have h_ := HNM.out; rw [i64_w, wrap_id (by omega) (by omega)]; omega
      have HZZ := Aside0.mk hz.symm
      by_cases h5 : t.f0 = 5
      · have b5 : (t.f0 == 5) = true := beq_iff_eq.2 h5
        have hn : ¬ 0 < n := fun h => hcc (.inr ⟨h5, h⟩)
        have b7 : decide ((n : Int) > 0) = false := decide_eq_false (by omega)
        have b8 : decide ((0 : Int) < (n : Int)) = false := decide_eq_false (by omega)
        have b9 : decide (0 < n) = false := decide_eq_false hn
        clear hcc h5 hn hks hz hk
        go_upto_region 10 with (fail)
        go_wp2_with (first | ((with_reducible refine gate_builtin (b := .append) (xs := #[(.const (.slice none 0 0)), (.tmp 112)]) rfl ?_); go_must (refine gate_guard (by rfl) ?_; refine Kd.R_append_rows k39 (w0 := wc) wc.heap.size rfl (.const (.slice none 0 0)) (.tmp 112) 29 39 (.agg #[.int .i64 0, .string ⟨#[]⟩, .string ⟨#[]⟩, .int .u8 0, .int .i64 0, .int .i64 0, .int .i64 0, .int .i64 0, .string ⟨#[]⟩, .string ⟨#[]⟩]) 112 rfl Try.underlying29 info_ev rfl (by decide) (by decide) _ [] x AX x.length cx (fun _ => True) (fun _ => False) rfl rfl (Kd.R_nil _ _ _ _ _) HX7.out.2 (fun _ _ h => h) (fun _ h => h.elim) (fun _ _ => trivial) (Below.refl _ _) (Nat.le_refl _) (by have h_ := HXL.out; simp; omega) ?_); intro v1 w8 hO hB hg hat; obtain ⟨A8, c8, rfl⟩ := Kd.R_slice hO; simp only [List.nil_append] at hO; simp only [List.nil_append]; have HO8 := Aside0.mk hO; have HB8 := Aside0.mk hB; clear hO hB hg hat) | ((with_reducible refine gate_builtin (b := .append) (xs := #[(.tmp 113), (.tmp 114)]) rfl ?_); go_must (refine gate_guard (by rfl) ?_; refine Kd.R_append_rows k39 (w0 := wc) wc.heap.size rfl (.tmp 113) (.tmp 114) 29 39 (.agg #[.int .i64 0, .string ⟨#[]⟩, .string ⟨#[]⟩, .int .u8 0, .int .i64 0, .int .i64 0, .int .i64 0, .int .i64 0, .string ⟨#[]⟩, .string ⟨#[]⟩]) 112 rfl Try.underlying29 info_ev rfl (by decide) (by decide) _ x y AY y.length cy (fun _ => True) (fun _ => False) rfl rfl HO8.out (Kd.C_below HY7.out.2 HB8.out) (fun _ _ h => h) (fun _ h => h.elim) (fun _ _ => trivial) HB8.out HB8.out.size (by have h_ := HXL.out; omega) ?_); intro v2 w9 hO hB hg hat; rw [HZZ.out] at hO; obtain ⟨A9, c9, rfl, h9, hC9⟩ := Kd.R_reads hO; have HC9 := Aside0.mk hC9; have HL9 := Aside0.mk h9; have HB9 := Aside0.mk hB; clear hO hB hg hat hC9 h9) | (go_at_call 19; refine (hsame _ _ _ (Kd.C_below HZ7.out.2 HB9.out) HZ7.out.1 HC9.out HL9.out).mono ?_; rintro e_ w10 ⟨rfl, hd_⟩; have HB10 := Aside0.mk (below_step (below_step HBw.out HB9.out) (Drawn0.below hd_)); clear hd_))
        go_ret
        exact ⟨by simp, HB10.out⟩
      · have b5 : (t.f0 == 5) = false := beq_eq_false_iff_ne.2 h5
        clear hcc h5 hks hz hk
        go_upto_region 10 with (fail)
        go_wp2_with (first | ((with_reducible refine gate_builtin (b := .append) (xs := #[(.const (.slice none 0 0)), (.tmp 112)]) rfl ?_); go_must (refine gate_guard (by rfl) ?_; refine Kd.R_append_rows k39 (w0 := wc) wc.heap.size rfl (.const (.slice none 0 0)) (.tmp 112) 29 39 (.agg #[.int .i64 0, .string ⟨#[]⟩, .string ⟨#[]⟩, .int .u8 0, .int .i64 0, .int .i64 0, .int .i64 0, .int .i64 0, .string ⟨#[]⟩, .string ⟨#[]⟩]) 112 rfl Try.underlying29 info_ev rfl (by decide) (by decide) _ [] x AX x.length cx (fun _ => True) (fun _ => False) rfl rfl (Kd.R_nil _ _ _ _ _) HX7.out.2 (fun _ _ h => h) (fun _ h => h.elim) (fun _ _ => trivial) (Below.refl _ _) (Nat.le_refl _) (by have h_ := HXL.out; simp; omega) ?_); intro v1 w8 hO hB hg hat; obtain ⟨A8, c8, rfl⟩ := Kd.R_slice hO; simp only [List.nil_append] at hO; simp only [List.nil_append]; have HO8 := Aside0.mk hO; have HB8 := Aside0.mk hB; clear hO hB hg hat) | ((with_reducible refine gate_builtin (b := .append) (xs := #[(.tmp 113), (.tmp 114)]) rfl ?_); go_must (refine gate_guard (by rfl) ?_; refine Kd.R_append_rows k39 (w0 := wc) wc.heap.size rfl (.tmp 113) (.tmp 114) 29 39 (.agg #[.int .i64 0, .string ⟨#[]⟩, .string ⟨#[]⟩, .int .u8 0, .int .i64 0, .int .i64 0, .int .i64 0, .int .i64 0, .string ⟨#[]⟩, .string ⟨#[]⟩]) 112 rfl Try.underlying29 info_ev rfl (by decide) (by decide) _ x y AY y.length cy (fun _ => True) (fun _ => False) rfl rfl HO8.out (Kd.C_below HY7.out.2 HB8.out) (fun _ _ h => h) (fun _ h => h.elim) (fun _ _ => trivial) HB8.out HB8.out.size (by have h_ := HXL.out; omega) ?_); intro v2 w9 hO hB hg hat; rw [HZZ.out] at hO; obtain ⟨A9, c9, rfl, h9, hC9⟩ := Kd.R_reads hO; have HC9 := Aside0.mk hC9; have HL9 := Aside0.mk h9; have HB9 := Aside0.mk hB; clear hO hB hg hat hC9 h9) | (go_at_call 19; refine (hsame _ _ _ (Kd.C_below HZ7.out.2 HB9.out) HZ7.out.1 HC9.out HL9.out).mono ?_; rintro e_ w10 ⟨rfl, hd_⟩; have HB10 := Aside0.mk (below_step (below_step HBw.out HB9.out) (Drawn0.below hd_)); clear hd_))
        go_ret
        exact ⟨by simp, HB10.out⟩
theorem reelkeeperlaw09_ParseParts.calls (k : Nat) (s : Pst) (A0 : Option Addr) (c0 : Nat) (l0 : List (List Int)) (A1 : Option Addr) (c1 : Nat) (l1 : List (List Int)) (r : Bool) (w : World) (hC0 : Kd.C kRw w A0 l0.length l0) (hc0 : l0.length ≤ c0) (hY0 : ∀ r ∈ l0, byteOk r) (hC1 : Kd.C kRw w A1 l1.length l1) (hc1 : l1.length ≤ c1) (hY1 : ∀ r ∈ l1, byteOk r) (h : reelkeeperlaw09_ParseParts.f k s l0 l1 = some r) :
    Calls Try.prog 6 #[.agg #[.int .i64 s.f0, .string s.f1.f0, .string s.f1.f1, .int .u8 s.f1.f2, .int .i64 s.f1.f3, .int .i64 s.f1.f4, .int .i64 s.f1.f5, .int .i64 s.f1.f6, .string s.f1.f7, .int .i64 s.f2, .int .i64 s.f3, .string s.f4, .string s.f5, .string s.f6], .slice A0 l0.length c0, .slice A1 l1.length c1] w fun e w' => e = .returned (.bool r) ∧ Below w.heap.size w w' := by
  obtain rfl : true = r := Option.some.inj h
  exact parse_parts.at_ s A0 c0 l0 A1 c1 l1 _ _ rfl rfl w hC0 hc0 hC1 hc1 hY0 hY1

end Go.Proofs.Ytoahjigjlgcjkaa.X
