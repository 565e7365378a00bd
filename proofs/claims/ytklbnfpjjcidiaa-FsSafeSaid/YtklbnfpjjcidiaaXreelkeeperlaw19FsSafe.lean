import Derived.Test.YtklbnfpjjcidiaaXK
import Derived.Test.YtklbnfpjjcidiaaXE26
import Derived.Test.YtklbnfpjjcidiaaXGfsa
import Derived.Test.YtklbnfpjjcidiaaXGfsc
import Derived.Test.YtklbnfpjjcidiaaXGfsd
import Derived.Test.YtklbnfpjjcidiaaXGfse
import Derived.Test.YtklbnfpjjcidiaaXGpath
import Derived.Test.YtklbnfpjjcidiaaXGslices
import Derived.Test.YtklbnfpjjcidiaaXGtree
import Derived.Test.YtklbnfpjjcidiaaXreelkeeperlaw05Few
import Derived.Test.YtklbnfpjjcidiaaXreelkeeperlaw06Few
import Derived.Test.YtklbnfpjjcidiaaYAll
import Derived.Test.YtklbnfpjjcidiaaP02p
import Derived.Test.YtklbnfpjjcidiaaP06a
import Derived.Test.YtklbnfpjjcidiaaPGA
import Derived.Deep.RegionHeld3
import Derived.Laws.EntriesVeiled
import Derived.WalkSpells
namespace Go.Proofs.Ytklbnfpjjcidiaa.X
open Go.RowKit Go.Proofs.YtklbnfpjjcidiaaW.PrintWords Go.Proofs.YtklbnfpjjcidiaaW.PrintLast Go.Proofs.YtklbnfpjjcidiaaW.PrintMore
attribute [local go_sem] max2_int min2_int max_two min_two
set_option linter.unusedVariables false
set_option linter.unusedSimpArgs false

attribute [local go_sem high] eqA26
open Go.Proofs.YtklbnfpjjcidiaaY
set_option maxRecDepth 100000
def reelkeeperlaw19_FsSafe.f (k : Nat) (l0 : List Nd) (n0 n1 : ByteArray) (n2 n3 n4 n5 n6 : Int) (n7 : ByteArray) : Option Bool := some true
theorem one_may19 {n : Nd} (hn : okN n = true) (h : one n = true) : mayL n.f0.data.toList = true := by
  have h1 := one_f hn
  rw [h] at h1
  unfold tree_One.f at h1
  obtain ⟨q, _, h1⟩ := Option.bind_eq_some_iff.mp h1
  rw [may_f (by have := (okN_iff.1 hn).1; omega)] at h1
  have h2 := Option.some.inj h1
  simp only [Bool.and_eq_true] at h2
  exact h2.1.1.1.1.2
theorem FsSafe_told (l : List Nd) (n : Nd) : ∃ k, reelkeeperlaw19_FsSafe.f k l n.f0 n.f1 n.f2 n.f3 n.f4 n.f5 n.f6 n.f7 = some true := ⟨0, rfl⟩
set_option maxHeartbeats 3200000 in
theorem fs_safe.at_ (A : Option Addr) (c : Nat) (l : List Nd) (n : Nd) (w : World) (hC : Kd.C kNd w A l.length l) (hc : l.length ≤ c) :
    Calls Try.prog 5 #[.agg #[.slice A l.length c], .agg #[.string n.f0, .string n.f1, .int .u8 n.f2, .int .i64 n.f3, .int .i64 n.f4, .int .i64 n.f5, .int .i64 n.f6, .string n.f7]] w fun e w' => e = .returned (.bool true) ∧ Below w.heap.size w w' := by
  have HC := Aside0.mk hC
  have hup := fun W => awake19.at_ W
  obtain ⟨kf, hkf⟩ := Ev.rounds (few_ev l)
  have hfew := fun W hC' => reelkeeperlaw06_Few.calls kf A c l _ W hC' hc hkf
  have hfew5 := fun W => reelkeeperlaw05_Few.calls n.f0 n.f1 n.f2 n.f3 n.f4 n.f5 n.f6 n.f7 _ W (few5 n)
  clear hkf hC
  cases hf : fewL l with
  | false =>
    rw [hf] at hfew
    clear hf
    generalize okN n = o at *
    have HB0 := Aside0.mk (Below.refl w.heap.size w)
    have HB0 := Aside0.mk (below_alloc HB0.out (.cells #[.slice A l.length c] 24))
    have HF0 := heap_alloc_new w (.cells #[.slice A l.length c] 24)
    have HF0 := Aside0.mk HF0
    have HB0 := Aside0.mk (below_alloc HB0.out (.cells #[.string n.f0, .string n.f1, .int .u8 n.f2, .int .i64 n.f3, .int .i64 n.f4, .int .i64 n.f5, .int .i64 n.f6, .string n.f7] 26))
    have HF0 := Aside0.mk (blk_alloc HF0.out (.cells #[.string n.f0, .string n.f1, .int .u8 n.f2, .int .i64 n.f3, .int .i64 n.f4, .int .i64 n.f5, .int .i64 n.f6, .string n.f7] 26))
    have HN0 := heap_alloc_new (w.alloc (.cells #[.slice A l.length c] 24)) (.cells #[.string n.f0, .string n.f1, .int .u8 n.f2, .int .i64 n.f3, .int .i64 n.f4, .int .i64 n.f5, .int .i64 n.f6, .string n.f7] 26)
    rw [show (w.alloc (.cells #[.slice A l.length c] 24)).heap.size = w.heap.size + 1 by simp] at HN0
    have HN0 := Aside0.mk HN0
    have zF0 := (blk_cell HF0.out 0).trans (show _ = some (Value.slice A l.length c) from rfl)
    obtain ⟨zN0_0, zN1_0, zN2_0, zN3_0, zN4_0, zN5_0, zN6_0, zN7_0⟩ := cells8 HN0.out
    go_enter Try.func5, Try.ntmps5
    go_wp2_with (first | (go_at_call 9; (with_reducible refine (hup _).mono ?_); rintro e_ w1 ⟨rfl, hb⟩; have HB1 := Aside0.mk (below_step HB0.out hb); have HF1 := Aside0.mk (blk_below HF0.out hb); have HN1 := Aside0.mk (blk_below HN0.out hb); clear hb; have zF1 := (blk_cell HF1.out 0).trans (show _ = some (Value.slice A l.length c) from rfl); obtain ⟨zN0_1, zN1_1, zN2_1, zN3_1, zN4_1, zN5_1, zN6_1, zN7_1⟩ := cells8 HN1.out) | (go_at_call 10; (with_reducible refine (hfew _ (Kd.C_below HC.out HB1.out)).mono ?_); rintro e_ w2 ⟨rfl, hb⟩; have HB2 := Aside0.mk (below_step HB1.out hb); have HF2 := Aside0.mk (blk_below HF1.out hb); have HN2 := Aside0.mk (blk_below HN1.out hb); clear hb; have zF2 := (blk_cell HF2.out 0).trans (show _ = some (Value.slice A l.length c) from rfl); obtain ⟨zN0_2, zN1_2, zN2_2, zN3_2, zN4_2, zN5_2, zN6_2, zN7_2⟩ := cells8 HN2.out) | (go_at_call 11; (with_reducible refine (hfew5 _).mono ?_); rintro e_ w3 ⟨rfl, hb⟩; have HB3 := Aside0.mk (below_step HB2.out hb); have HF3 := Aside0.mk (blk_below HF2.out hb); have HN3 := Aside0.mk (blk_below HN2.out hb); clear hb; have zF3 := (blk_cell HF3.out 0).trans (show _ = some (Value.slice A l.length c) from rfl); obtain ⟨zN0_3, zN1_3, zN2_3, zN3_3, zN4_3, zN5_3, zN6_3, zN7_3⟩ := cells8 HN3.out))
    go_ret
    exact ⟨rfl, HB3.out⟩
  | true =>
    rw [hf] at hfew
    obtain ⟨hl30, hok⟩ := fewL_iff.1 hf
    have hl : l.length ≤ 1000 := by omega
    cases hn : okN n with
    | false =>
      rw [hn] at hfew5
      clear hn hf hok
      have HB0 := Aside0.mk (Below.refl w.heap.size w)
      have HB0 := Aside0.mk (below_alloc HB0.out (.cells #[.slice A l.length c] 24))
      have HF0 := heap_alloc_new w (.cells #[.slice A l.length c] 24)
      have HF0 := Aside0.mk HF0
      have HB0 := Aside0.mk (below_alloc HB0.out (.cells #[.string n.f0, .string n.f1, .int .u8 n.f2, .int .i64 n.f3, .int .i64 n.f4, .int .i64 n.f5, .int .i64 n.f6, .string n.f7] 26))
      have HF0 := Aside0.mk (blk_alloc HF0.out (.cells #[.string n.f0, .string n.f1, .int .u8 n.f2, .int .i64 n.f3, .int .i64 n.f4, .int .i64 n.f5, .int .i64 n.f6, .string n.f7] 26))
      have HN0 := heap_alloc_new (w.alloc (.cells #[.slice A l.length c] 24)) (.cells #[.string n.f0, .string n.f1, .int .u8 n.f2, .int .i64 n.f3, .int .i64 n.f4, .int .i64 n.f5, .int .i64 n.f6, .string n.f7] 26)
      rw [show (w.alloc (.cells #[.slice A l.length c] 24)).heap.size = w.heap.size + 1 by simp] at HN0
      have HN0 := Aside0.mk HN0
      have zF0 := (blk_cell HF0.out 0).trans (show _ = some (Value.slice A l.length c) from rfl)
      obtain ⟨zN0_0, zN1_0, zN2_0, zN3_0, zN4_0, zN5_0, zN6_0, zN7_0⟩ := cells8 HN0.out
      go_enter Try.func5, Try.ntmps5
      go_wp2_with (first | (go_at_call 9; (with_reducible refine (hup _).mono ?_); rintro e_ w1 ⟨rfl, hb⟩; have HB1 := Aside0.mk (below_step HB0.out hb); have HF1 := Aside0.mk (blk_below HF0.out hb); have HN1 := Aside0.mk (blk_below HN0.out hb); clear hb; have zF1 := (blk_cell HF1.out 0).trans (show _ = some (Value.slice A l.length c) from rfl); obtain ⟨zN0_1, zN1_1, zN2_1, zN3_1, zN4_1, zN5_1, zN6_1, zN7_1⟩ := cells8 HN1.out) | (go_at_call 10; (with_reducible refine (hfew _ (Kd.C_below HC.out HB1.out)).mono ?_); rintro e_ w2 ⟨rfl, hb⟩; have HB2 := Aside0.mk (below_step HB1.out hb); have HF2 := Aside0.mk (blk_below HF1.out hb); have HN2 := Aside0.mk (blk_below HN1.out hb); clear hb; have zF2 := (blk_cell HF2.out 0).trans (show _ = some (Value.slice A l.length c) from rfl); obtain ⟨zN0_2, zN1_2, zN2_2, zN3_2, zN4_2, zN5_2, zN6_2, zN7_2⟩ := cells8 HN2.out) | (go_at_call 11; (with_reducible refine (hfew5 _).mono ?_); rintro e_ w3 ⟨rfl, hb⟩; have HB3 := Aside0.mk (below_step HB2.out hb); have HF3 := Aside0.mk (blk_below HF2.out hb); have HN3 := Aside0.mk (blk_below HN2.out hb); clear hb; have zF3 := (blk_cell HF3.out 0).trans (show _ = some (Value.slice A l.length c) from rfl); obtain ⟨zN0_3, zN1_3, zN2_3, zN3_3, zN4_3, zN5_3, zN6_3, zN7_3⟩ := cells8 HN3.out))
      go_ret
      exact ⟨rfl, HB3.out⟩
    | true =>
      rw [hn] at hfew5
      have hmay := fun W hC' => fs_May.at_ A c l W hC' hl hok
      have hput := fun W hC' => fs_Put.at_ A c l n W hC' hl hok hn
      have hns : n.f0.size ≤ 9223372036854775807 := by have := (okN_iff.1 hn).1; omega
      obtain ⟨kp, hkp⟩ := Ev.rounds (parentOf_ev hns).1
      have hpar := fun W => path_Parent.calls kp n.f0 (parentOf n.f0).1 (parentOf n.f0).2 W hkp
      have hget := fun W hC' => fs_Get.at_ A c l (parentOf n.f0).1 W hC' hl hok
      simp only [nodeV] at hget
      clear hkp
      cases hm : fsMay l with
      | false =>
        rw [hm] at hmay
        clear hm hput hget hpar hf hok
        have HB0 := Aside0.mk (Below.refl w.heap.size w)
        have HB0 := Aside0.mk (below_alloc HB0.out (.cells #[.slice A l.length c] 24))
        have HF0 := heap_alloc_new w (.cells #[.slice A l.length c] 24)
        have HF0 := Aside0.mk HF0
        have HB0 := Aside0.mk (below_alloc HB0.out (.cells #[.string n.f0, .string n.f1, .int .u8 n.f2, .int .i64 n.f3, .int .i64 n.f4, .int .i64 n.f5, .int .i64 n.f6, .string n.f7] 26))
        have HF0 := Aside0.mk (blk_alloc HF0.out (.cells #[.string n.f0, .string n.f1, .int .u8 n.f2, .int .i64 n.f3, .int .i64 n.f4, .int .i64 n.f5, .int .i64 n.f6, .string n.f7] 26))
        have HN0 := heap_alloc_new (w.alloc (.cells #[.slice A l.length c] 24)) (.cells #[.string n.f0, .string n.f1, .int .u8 n.f2, .int .i64 n.f3, .int .i64 n.f4, .int .i64 n.f5, .int .i64 n.f6, .string n.f7] 26)
        rw [show (w.alloc (.cells #[.slice A l.length c] 24)).heap.size = w.heap.size + 1 by simp] at HN0
        have HN0 := Aside0.mk HN0
        have zF0 := (blk_cell HF0.out 0).trans (show _ = some (Value.slice A l.length c) from rfl)
        obtain ⟨zN0_0, zN1_0, zN2_0, zN3_0, zN4_0, zN5_0, zN6_0, zN7_0⟩ := cells8 HN0.out
        go_enter Try.func5, Try.ntmps5
        go_wp2_with (first | (go_at_call 9; (with_reducible refine (hup _).mono ?_); rintro e_ w1 ⟨rfl, hb⟩; have HB1 := Aside0.mk (below_step HB0.out hb); have HF1 := Aside0.mk (blk_below HF0.out hb); have HN1 := Aside0.mk (blk_below HN0.out hb); clear hb; have zF1 := (blk_cell HF1.out 0).trans (show _ = some (Value.slice A l.length c) from rfl); obtain ⟨zN0_1, zN1_1, zN2_1, zN3_1, zN4_1, zN5_1, zN6_1, zN7_1⟩ := cells8 HN1.out) | (go_at_call 10; (with_reducible refine (hfew _ (Kd.C_below HC.out HB1.out)).mono ?_); rintro e_ w2 ⟨rfl, hb⟩; have HB2 := Aside0.mk (below_step HB1.out hb); have HF2 := Aside0.mk (blk_below HF1.out hb); have HN2 := Aside0.mk (blk_below HN1.out hb); clear hb; have zF2 := (blk_cell HF2.out 0).trans (show _ = some (Value.slice A l.length c) from rfl); obtain ⟨zN0_2, zN1_2, zN2_2, zN3_2, zN4_2, zN5_2, zN6_2, zN7_2⟩ := cells8 HN2.out) | (go_at_call 11; (with_reducible refine (hfew5 _).mono ?_); rintro e_ w3 ⟨rfl, hb⟩; have HB3 := Aside0.mk (below_step HB2.out hb); have HF3 := Aside0.mk (blk_below HF2.out hb); have HN3 := Aside0.mk (blk_below HN2.out hb); clear hb; have zF3 := (blk_cell HF3.out 0).trans (show _ = some (Value.slice A l.length c) from rfl); obtain ⟨zN0_3, zN1_3, zN2_3, zN3_3, zN4_3, zN5_3, zN6_3, zN7_3⟩ := cells8 HN3.out) | (go_at_call 22; (with_reducible refine (hmay _ (Kd.C_below HC.out HB3.out)).mono ?_); rintro e_ w4 ⟨rfl, hb⟩; have HB4 := Aside0.mk (below_step HB3.out hb); have HF4 := Aside0.mk (blk_below HF3.out hb); have HN4 := Aside0.mk (blk_below HN3.out hb); clear hb; have zF4 := (blk_cell HF4.out 0).trans (show _ = some (Value.slice A l.length c) from rfl); obtain ⟨zN0_4, zN1_4, zN2_4, zN3_4, zN4_4, zN5_4, zN6_4, zN7_4⟩ := cells8 HN4.out))
        go_ret
        exact ⟨rfl, HB4.out⟩
      | true =>
        rw [hm] at hmay
        by_cases he : (fsPut l n).2 = 0
        · obtain ⟨_, h1, h2, h3, _⟩ := put_ok.1 he
          have hone := fun W => tree_One.calls n.f0 n.f1 n.f2 n.f3 n.f4 n.f5 n.f6 n.f7 true W ((one_f hn).trans (by rw [h1]))
          have hpm := fun W => path_May.calls n.f0 true W ((may_f (by omega)).trans (by rw [one_may19 hn h1]))
          have b1 : ((fsPut l n).2 != 0) = false := by simp only [bne, beq_iff_eq.2 he]; rfl
          cases hp : (parentOf n.f0).2 with
          | false =>
            rw [hp] at hpar
            clear h3
            generalize (fsPut l n).2 = e at *
            generalize (fsPut l n).1 = g at *
            generalize fsGet l (parentOf n.f0).1 = r at *
            obtain ⟨d, eg⟩ := r
            generalize (parentOf n.f0).1 = up at *
            simp only at hget
            clear hf hok hm hn he h1 h2 hp
            have HB0 := Aside0.mk (Below.refl w.heap.size w)
            have HB0 := Aside0.mk (below_alloc HB0.out (.cells #[.slice A l.length c] 24))
            have HF0 := heap_alloc_new w (.cells #[.slice A l.length c] 24)
            have HF0 := Aside0.mk HF0
            have HB0 := Aside0.mk (below_alloc HB0.out (.cells #[.string n.f0, .string n.f1, .int .u8 n.f2, .int .i64 n.f3, .int .i64 n.f4, .int .i64 n.f5, .int .i64 n.f6, .string n.f7] 26))
            have HF0 := Aside0.mk (blk_alloc HF0.out (.cells #[.string n.f0, .string n.f1, .int .u8 n.f2, .int .i64 n.f3, .int .i64 n.f4, .int .i64 n.f5, .int .i64 n.f6, .string n.f7] 26))
            have HN0 := heap_alloc_new (w.alloc (.cells #[.slice A l.length c] 24)) (.cells #[.string n.f0, .string n.f1, .int .u8 n.f2, .int .i64 n.f3, .int .i64 n.f4, .int .i64 n.f5, .int .i64 n.f6, .string n.f7] 26)
            rw [show (w.alloc (.cells #[.slice A l.length c] 24)).heap.size = w.heap.size + 1 by simp] at HN0
            have HN0 := Aside0.mk HN0
            have zF0 := (blk_cell HF0.out 0).trans (show _ = some (Value.slice A l.length c) from rfl)
            obtain ⟨zN0_0, zN1_0, zN2_0, zN3_0, zN4_0, zN5_0, zN6_0, zN7_0⟩ := cells8 HN0.out
            go_enter Try.func5, Try.ntmps5
            go_upto_region 2 with (go_at_call 9; (with_reducible refine (hup _).mono ?_); rintro e_ w1 ⟨rfl, hb⟩; have HB1 := Aside0.mk (below_step HB0.out hb); have HF1 := Aside0.mk (blk_below HF0.out hb); have HN1 := Aside0.mk (blk_below HN0.out hb); clear hb; have zF1 := (blk_cell HF1.out 0).trans (show _ = some (Value.slice A l.length c) from rfl); obtain ⟨zN0_1, zN1_1, zN2_1, zN3_1, zN4_1, zN5_1, zN6_1, zN7_1⟩ := cells8 HN1.out)
            go_upto_region 3 with (go_at_call 10; (with_reducible refine (hfew _ (Kd.C_below HC.out HB1.out)).mono ?_); rintro e_ w2 ⟨rfl, hb⟩; have HB2 := Aside0.mk (below_step HB1.out hb); have HF2 := Aside0.mk (blk_below HF1.out hb); have HN2 := Aside0.mk (blk_below HN1.out hb); clear hb; have zF2 := (blk_cell HF2.out 0).trans (show _ = some (Value.slice A l.length c) from rfl); obtain ⟨zN0_2, zN1_2, zN2_2, zN3_2, zN4_2, zN5_2, zN6_2, zN7_2⟩ := cells8 HN2.out)
            go_upto_region 4 with (go_at_call 11; (with_reducible refine (hfew5 _).mono ?_); rintro e_ w3 ⟨rfl, hb⟩; have HB3 := Aside0.mk (below_step HB2.out hb); have HF3 := Aside0.mk (blk_below HF2.out hb); have HN3 := Aside0.mk (blk_below HN2.out hb); clear hb; have zF3 := (blk_cell HF3.out 0).trans (show _ = some (Value.slice A l.length c) from rfl); obtain ⟨zN0_3, zN1_3, zN2_3, zN3_3, zN4_3, zN5_3, zN6_3, zN7_3⟩ := cells8 HN3.out)
            go_upto_region 6 with (go_at_call 22; (with_reducible refine (hmay _ (Kd.C_below HC.out HB3.out)).mono ?_); rintro e_ w4 ⟨rfl, hb⟩; have HB4 := Aside0.mk (below_step HB3.out hb); have HF4 := Aside0.mk (blk_below HF3.out hb); have HN4 := Aside0.mk (blk_below HN3.out hb); clear hb; have zF4 := (blk_cell HF4.out 0).trans (show _ = some (Value.slice A l.length c) from rfl); obtain ⟨zN0_4, zN1_4, zN2_4, zN3_4, zN4_4, zN5_4, zN6_4, zN7_4⟩ := cells8 HN4.out)
            go_upto_region 7 with (go_at_call 12; (with_reducible refine (hput _ (Kd.C_below HC.out HB4.out)).mono ?_); rintro e_ w5 ⟨AG, cG, rfl, hR, hb⟩; have HB5 := Aside0.mk (below_alloc (below_step HB4.out hb) (.cells #[.slice AG g.length cG] 24)); have HF5 := Aside0.mk (blk_alloc (blk_below HF4.out hb) (.cells #[.slice AG g.length cG] 24)); have HN5 := Aside0.mk (blk_alloc (blk_below HN4.out hb) (.cells #[.slice AG g.length cG] 24)); have HRG5 := Aside0.mk (Kd.R_alloc hR.out (.cells #[.slice AG g.length cG] 24)); have HG5 := Aside0.mk (heap_alloc_new w5 (.cells #[.slice AG g.length cG] 24)); clear hb hR; have zF5 := (blk_cell HF5.out 0).trans (show _ = some (Value.slice A l.length c) from rfl); obtain ⟨zN0_5, zN1_5, zN2_5, zN3_5, zN4_5, zN5_5, zN6_5, zN7_5⟩ := cells8 HN5.out; have zG5 := (blk_cell HG5.out 0).trans (show _ = some (Value.slice AG g.length cG) from rfl))
            go_upto_region 8 with (go_at_call 24; (with_reducible refine (hpar _).mono ?_); rintro e_ w6 ⟨rfl, hb⟩; have HB6 := Aside0.mk (below_step HB5.out hb); have HF6 := Aside0.mk (blk_below HF5.out hb); have HN6 := Aside0.mk (blk_below HN5.out hb); have HG6 := Aside0.mk (blk_below HG5.out hb); have HRG6 := Aside0.mk (Kd.R_below HRG5.out hb); clear hb; have zF6 := (blk_cell HF6.out 0).trans (show _ = some (Value.slice A l.length c) from rfl); obtain ⟨zN0_6, zN1_6, zN2_6, zN3_6, zN4_6, zN5_6, zN6_6, zN7_6⟩ := cells8 HN6.out; have zG6 := (blk_cell HG6.out 0).trans (show _ = some (Value.slice AG g.length cG) from rfl))
            go_upto_region 9 with (go_at_call 16; (with_reducible refine (hget _ (Kd.C_below HC.out HB6.out)).mono ?_); rintro e_ w7 ⟨rfl, hb⟩; have HB7 := Aside0.mk (below_alloc (below_step HB6.out hb) (.cells #[.string d.f0, .string d.f1, .int .u8 d.f2, .int .i64 d.f3, .int .i64 d.f4, .int .i64 d.f5, .int .i64 d.f6, .string d.f7] 26)); have HF7 := Aside0.mk (blk_alloc (blk_below HF6.out hb) (.cells #[.string d.f0, .string d.f1, .int .u8 d.f2, .int .i64 d.f3, .int .i64 d.f4, .int .i64 d.f5, .int .i64 d.f6, .string d.f7] 26)); have HN7 := Aside0.mk (blk_alloc (blk_below HN6.out hb) (.cells #[.string d.f0, .string d.f1, .int .u8 d.f2, .int .i64 d.f3, .int .i64 d.f4, .int .i64 d.f5, .int .i64 d.f6, .string d.f7] 26)); have HG7 := Aside0.mk (blk_alloc (blk_below HG6.out hb) (.cells #[.string d.f0, .string d.f1, .int .u8 d.f2, .int .i64 d.f3, .int .i64 d.f4, .int .i64 d.f5, .int .i64 d.f6, .string d.f7] 26)); have HRG7 := Aside0.mk (Kd.R_alloc (Kd.R_below HRG6.out hb) (.cells #[.string d.f0, .string d.f1, .int .u8 d.f2, .int .i64 d.f3, .int .i64 d.f4, .int .i64 d.f5, .int .i64 d.f6, .string d.f7] 26)); have HD7 := Aside0.mk (heap_alloc_new w7 (.cells #[.string d.f0, .string d.f1, .int .u8 d.f2, .int .i64 d.f3, .int .i64 d.f4, .int .i64 d.f5, .int .i64 d.f6, .string d.f7] 26)); clear hb; have zF7 := (blk_cell HF7.out 0).trans (show _ = some (Value.slice A l.length c) from rfl); obtain ⟨zN0_7, zN1_7, zN2_7, zN3_7, zN4_7, zN5_7, zN6_7, zN7_7⟩ := cells8 HN7.out; have zG7 := (blk_cell HG7.out 0).trans (show _ = some (Value.slice AG g.length cG) from rfl); obtain ⟨zD0_7, zD1_7, zD2_7, zD3_7, zD4_7, zD5_7, zD6_7, zD7_7⟩ := cells8 HD7.out)
            go_wp2_with (first | (go_at_call 25; (with_reducible refine (hone _).mono ?_); rintro e_ w8 ⟨rfl, hb⟩; have HB8 := Aside0.mk (below_step HB7.out hb); have HF8 := Aside0.mk (blk_below HF7.out hb); have HN8 := Aside0.mk (blk_below HN7.out hb); have HG8 := Aside0.mk (blk_below HG7.out hb); have HD8 := Aside0.mk (blk_below HD7.out hb); have HRG8 := Aside0.mk (Kd.R_below HRG7.out hb); clear hb; have zF8 := (blk_cell HF8.out 0).trans (show _ = some (Value.slice A l.length c) from rfl); obtain ⟨zN0_8, zN1_8, zN2_8, zN3_8, zN4_8, zN5_8, zN6_8, zN7_8⟩ := cells8 HN8.out; have zG8 := (blk_cell HG8.out 0).trans (show _ = some (Value.slice AG g.length cG) from rfl); obtain ⟨zD0_8, zD1_8, zD2_8, zD3_8, zD4_8, zD5_8, zD6_8, zD7_8⟩ := cells8 HD8.out) | (go_at_call 26; (with_reducible refine (hpm _).mono ?_); rintro e_ w9 ⟨rfl, hb⟩; have HB9 := Aside0.mk (below_step HB8.out hb); have HF9 := Aside0.mk (blk_below HF8.out hb); have HN9 := Aside0.mk (blk_below HN8.out hb); have HG9 := Aside0.mk (blk_below HG8.out hb); have HD9 := Aside0.mk (blk_below HD8.out hb); have HRG9 := Aside0.mk (Kd.R_below HRG8.out hb); clear hb; have zF9 := (blk_cell HF9.out 0).trans (show _ = some (Value.slice A l.length c) from rfl); obtain ⟨zN0_9, zN1_9, zN2_9, zN3_9, zN4_9, zN5_9, zN6_9, zN7_9⟩ := cells8 HN9.out; have zG9 := (blk_cell HG9.out 0).trans (show _ = some (Value.slice AG g.length cG) from rfl); obtain ⟨zD0_9, zD1_9, zD2_9, zD3_9, zD4_9, zD5_9, zD6_9, zD7_9⟩ := cells8 HD9.out))
            go_ret
            exact ⟨rfl, HB9.out⟩
          | true =>
            rw [hp] at hpar
            obtain ⟨x, hx, hxe, hxk⟩ := (is_iff (may_sorted hm)).1 ((stands_iff.1 h3).1 hp)
            have hgx := get_mem hm hx hxe
            rw [hgx] at hget
            have hk : (x.f2 == 53) = true := beq_iff_eq.2 hxk
            generalize (fsPut l n).2 = e at *
            generalize (fsPut l n).1 = g at *
            clear hgx hxe h3 hx hxk
            generalize (parentOf n.f0).1 = up at *
            simp only at hget
            clear hf hok hm hn he h1 h2 hp
            obtain ⟨d, hd⟩ : ∃ d, x = d := ⟨_, rfl⟩
            subst hd
            have HB0 := Aside0.mk (Below.refl w.heap.size w)
            have HB0 := Aside0.mk (below_alloc HB0.out (.cells #[.slice A l.length c] 24))
            have HF0 := heap_alloc_new w (.cells #[.slice A l.length c] 24)
            have HF0 := Aside0.mk HF0
            have HB0 := Aside0.mk (below_alloc HB0.out (.cells #[.string n.f0, .string n.f1, .int .u8 n.f2, .int .i64 n.f3, .int .i64 n.f4, .int .i64 n.f5, .int .i64 n.f6, .string n.f7] 26))
            have HF0 := Aside0.mk (blk_alloc HF0.out (.cells #[.string n.f0, .string n.f1, .int .u8 n.f2, .int .i64 n.f3, .int .i64 n.f4, .int .i64 n.f5, .int .i64 n.f6, .string n.f7] 26))
            have HN0 := heap_alloc_new (w.alloc (.cells #[.slice A l.length c] 24)) (.cells #[.string n.f0, .string n.f1, .int .u8 n.f2, .int .i64 n.f3, .int .i64 n.f4, .int .i64 n.f5, .int .i64 n.f6, .string n.f7] 26)
            rw [show (w.alloc (.cells #[.slice A l.length c] 24)).heap.size = w.heap.size + 1 by simp] at HN0
            have HN0 := Aside0.mk HN0
            have zF0 := (blk_cell HF0.out 0).trans (show _ = some (Value.slice A l.length c) from rfl)
            obtain ⟨zN0_0, zN1_0, zN2_0, zN3_0, zN4_0, zN5_0, zN6_0, zN7_0⟩ := cells8 HN0.out
            go_enter Try.func5, Try.ntmps5
            go_upto_region 2 with (go_at_call 9; (with_reducible refine (hup _).mono ?_); rintro e_ w1 ⟨rfl, hb⟩; have HB1 := Aside0.mk (below_step HB0.out hb); have HF1 := Aside0.mk (blk_below HF0.out hb); have HN1 := Aside0.mk (blk_below HN0.out hb); clear hb; have zF1 := (blk_cell HF1.out 0).trans (show _ = some (Value.slice A l.length c) from rfl); obtain ⟨zN0_1, zN1_1, zN2_1, zN3_1, zN4_1, zN5_1, zN6_1, zN7_1⟩ := cells8 HN1.out)
            go_upto_region 3 with (go_at_call 10; (with_reducible refine (hfew _ (Kd.C_below HC.out HB1.out)).mono ?_); rintro e_ w2 ⟨rfl, hb⟩; have HB2 := Aside0.mk (below_step HB1.out hb); have HF2 := Aside0.mk (blk_below HF1.out hb); have HN2 := Aside0.mk (blk_below HN1.out hb); clear hb; have zF2 := (blk_cell HF2.out 0).trans (show _ = some (Value.slice A l.length c) from rfl); obtain ⟨zN0_2, zN1_2, zN2_2, zN3_2, zN4_2, zN5_2, zN6_2, zN7_2⟩ := cells8 HN2.out)
            go_upto_region 4 with (go_at_call 11; (with_reducible refine (hfew5 _).mono ?_); rintro e_ w3 ⟨rfl, hb⟩; have HB3 := Aside0.mk (below_step HB2.out hb); have HF3 := Aside0.mk (blk_below HF2.out hb); have HN3 := Aside0.mk (blk_below HN2.out hb); clear hb; have zF3 := (blk_cell HF3.out 0).trans (show _ = some (Value.slice A l.length c) from rfl); obtain ⟨zN0_3, zN1_3, zN2_3, zN3_3, zN4_3, zN5_3, zN6_3, zN7_3⟩ := cells8 HN3.out)
            go_upto_region 6 with (go_at_call 22; (with_reducible refine (hmay _ (Kd.C_below HC.out HB3.out)).mono ?_); rintro e_ w4 ⟨rfl, hb⟩; have HB4 := Aside0.mk (below_step HB3.out hb); have HF4 := Aside0.mk (blk_below HF3.out hb); have HN4 := Aside0.mk (blk_below HN3.out hb); clear hb; have zF4 := (blk_cell HF4.out 0).trans (show _ = some (Value.slice A l.length c) from rfl); obtain ⟨zN0_4, zN1_4, zN2_4, zN3_4, zN4_4, zN5_4, zN6_4, zN7_4⟩ := cells8 HN4.out)
            go_upto_region 7 with (go_at_call 12; (with_reducible refine (hput _ (Kd.C_below HC.out HB4.out)).mono ?_); rintro e_ w5 ⟨AG, cG, rfl, hR, hb⟩; have HB5 := Aside0.mk (below_alloc (below_step HB4.out hb) (.cells #[.slice AG g.length cG] 24)); have HF5 := Aside0.mk (blk_alloc (blk_below HF4.out hb) (.cells #[.slice AG g.length cG] 24)); have HN5 := Aside0.mk (blk_alloc (blk_below HN4.out hb) (.cells #[.slice AG g.length cG] 24)); have HRG5 := Aside0.mk (Kd.R_alloc hR.out (.cells #[.slice AG g.length cG] 24)); have HG5 := Aside0.mk (heap_alloc_new w5 (.cells #[.slice AG g.length cG] 24)); clear hb hR; have zF5 := (blk_cell HF5.out 0).trans (show _ = some (Value.slice A l.length c) from rfl); obtain ⟨zN0_5, zN1_5, zN2_5, zN3_5, zN4_5, zN5_5, zN6_5, zN7_5⟩ := cells8 HN5.out; have zG5 := (blk_cell HG5.out 0).trans (show _ = some (Value.slice AG g.length cG) from rfl))
            go_upto_region 8 with (go_at_call 24; (with_reducible refine (hpar _).mono ?_); rintro e_ w6 ⟨rfl, hb⟩; have HB6 := Aside0.mk (below_step HB5.out hb); have HF6 := Aside0.mk (blk_below HF5.out hb); have HN6 := Aside0.mk (blk_below HN5.out hb); have HG6 := Aside0.mk (blk_below HG5.out hb); have HRG6 := Aside0.mk (Kd.R_below HRG5.out hb); clear hb; have zF6 := (blk_cell HF6.out 0).trans (show _ = some (Value.slice A l.length c) from rfl); obtain ⟨zN0_6, zN1_6, zN2_6, zN3_6, zN4_6, zN5_6, zN6_6, zN7_6⟩ := cells8 HN6.out; have zG6 := (blk_cell HG6.out 0).trans (show _ = some (Value.slice AG g.length cG) from rfl))
            go_upto_region 9 with (go_at_call 16; (with_reducible refine (hget _ (Kd.C_below HC.out HB6.out)).mono ?_); rintro e_ w7 ⟨rfl, hb⟩; have HB7 := Aside0.mk (below_alloc (below_step HB6.out hb) (.cells #[.string x.f0, .string x.f1, .int .u8 x.f2, .int .i64 x.f3, .int .i64 x.f4, .int .i64 x.f5, .int .i64 x.f6, .string x.f7] 26)); have HF7 := Aside0.mk (blk_alloc (blk_below HF6.out hb) (.cells #[.string x.f0, .string x.f1, .int .u8 x.f2, .int .i64 x.f3, .int .i64 x.f4, .int .i64 x.f5, .int .i64 x.f6, .string x.f7] 26)); have HN7 := Aside0.mk (blk_alloc (blk_below HN6.out hb) (.cells #[.string x.f0, .string x.f1, .int .u8 x.f2, .int .i64 x.f3, .int .i64 x.f4, .int .i64 x.f5, .int .i64 x.f6, .string x.f7] 26)); have HG7 := Aside0.mk (blk_alloc (blk_below HG6.out hb) (.cells #[.string x.f0, .string x.f1, .int .u8 x.f2, .int .i64 x.f3, .int .i64 x.f4, .int .i64 x.f5, .int .i64 x.f6, .string x.f7] 26)); have HRG7 := Aside0.mk (Kd.R_alloc (Kd.R_below HRG6.out hb) (.cells #[.string x.f0, .string x.f1, .int .u8 x.f2, .int .i64 x.f3, .int .i64 x.f4, .int .i64 x.f5, .int .i64 x.f6, .string x.f7] 26)); have HD7 := Aside0.mk (heap_alloc_new w7 (.cells #[.string x.f0, .string x.f1, .int .u8 x.f2, .int .i64 x.f3, .int .i64 x.f4, .int .i64 x.f5, .int .i64 x.f6, .string x.f7] 26)); clear hb; have zF7 := (blk_cell HF7.out 0).trans (show _ = some (Value.slice A l.length c) from rfl); obtain ⟨zN0_7, zN1_7, zN2_7, zN3_7, zN4_7, zN5_7, zN6_7, zN7_7⟩ := cells8 HN7.out; have zG7 := (blk_cell HG7.out 0).trans (show _ = some (Value.slice AG g.length cG) from rfl); obtain ⟨zD0_7, zD1_7, zD2_7, zD3_7, zD4_7, zD5_7, zD6_7, zD7_7⟩ := cells8 HD7.out)
            go_wp2_with (first | (go_at_call 25; (with_reducible refine (hone _).mono ?_); rintro e_ w8 ⟨rfl, hb⟩; have HB8 := Aside0.mk (below_step HB7.out hb); have HF8 := Aside0.mk (blk_below HF7.out hb); have HN8 := Aside0.mk (blk_below HN7.out hb); have HG8 := Aside0.mk (blk_below HG7.out hb); have HD8 := Aside0.mk (blk_below HD7.out hb); have HRG8 := Aside0.mk (Kd.R_below HRG7.out hb); clear hb; have zF8 := (blk_cell HF8.out 0).trans (show _ = some (Value.slice A l.length c) from rfl); obtain ⟨zN0_8, zN1_8, zN2_8, zN3_8, zN4_8, zN5_8, zN6_8, zN7_8⟩ := cells8 HN8.out; have zG8 := (blk_cell HG8.out 0).trans (show _ = some (Value.slice AG g.length cG) from rfl); obtain ⟨zD0_8, zD1_8, zD2_8, zD3_8, zD4_8, zD5_8, zD6_8, zD7_8⟩ := cells8 HD8.out) | (go_at_call 26; (with_reducible refine (hpm _).mono ?_); rintro e_ w9 ⟨rfl, hb⟩; have HB9 := Aside0.mk (below_step HB8.out hb); have HF9 := Aside0.mk (blk_below HF8.out hb); have HN9 := Aside0.mk (blk_below HN8.out hb); have HG9 := Aside0.mk (blk_below HG8.out hb); have HD9 := Aside0.mk (blk_below HD8.out hb); have HRG9 := Aside0.mk (Kd.R_below HRG8.out hb); clear hb; have zF9 := (blk_cell HF9.out 0).trans (show _ = some (Value.slice A l.length c) from rfl); obtain ⟨zN0_9, zN1_9, zN2_9, zN3_9, zN4_9, zN5_9, zN6_9, zN7_9⟩ := cells8 HN9.out; have zG9 := (blk_cell HG9.out 0).trans (show _ = some (Value.slice AG g.length cG) from rfl); obtain ⟨zD0_9, zD1_9, zD2_9, zD3_9, zD4_9, zD5_9, zD6_9, zD7_9⟩ := cells8 HD9.out))
            go_ret
            exact ⟨rfl, HB9.out⟩
        · have b1 : ((fsPut l n).2 != 0) = true := by simp only [bne, beq_eq_false_iff_ne.2 he]; rfl
          generalize (fsPut l n).2 = e at *
          generalize (fsPut l n).1 = g at *
          generalize fsGet l (parentOf n.f0).1 = r at *
          obtain ⟨d, eg⟩ := r
          generalize (parentOf n.f0).1 = up at *
          generalize (parentOf n.f0).2 = has at *
          simp only at hget
          clear hf hok hm hn he
          have HB0 := Aside0.mk (Below.refl w.heap.size w)
          have HB0 := Aside0.mk (below_alloc HB0.out (.cells #[.slice A l.length c] 24))
          have HF0 := heap_alloc_new w (.cells #[.slice A l.length c] 24)
          have HF0 := Aside0.mk HF0
          have HB0 := Aside0.mk (below_alloc HB0.out (.cells #[.string n.f0, .string n.f1, .int .u8 n.f2, .int .i64 n.f3, .int .i64 n.f4, .int .i64 n.f5, .int .i64 n.f6, .string n.f7] 26))
          have HF0 := Aside0.mk (blk_alloc HF0.out (.cells #[.string n.f0, .string n.f1, .int .u8 n.f2, .int .i64 n.f3, .int .i64 n.f4, .int .i64 n.f5, .int .i64 n.f6, .string n.f7] 26))
          have HN0 := heap_alloc_new (w.alloc (.cells #[.slice A l.length c] 24)) (.cells #[.string n.f0, .string n.f1, .int .u8 n.f2, .int .i64 n.f3, .int .i64 n.f4, .int .i64 n.f5, .int .i64 n.f6, .string n.f7] 26)
          rw [show (w.alloc (.cells #[.slice A l.length c] 24)).heap.size = w.heap.size + 1 by simp] at HN0
          have HN0 := Aside0.mk HN0
          have zF0 := (blk_cell HF0.out 0).trans (show _ = some (Value.slice A l.length c) from rfl)
          obtain ⟨zN0_0, zN1_0, zN2_0, zN3_0, zN4_0, zN5_0, zN6_0, zN7_0⟩ := cells8 HN0.out
          go_enter Try.func5, Try.ntmps5
          go_upto_region 2 with (go_at_call 9; (with_reducible refine (hup _).mono ?_); rintro e_ w1 ⟨rfl, hb⟩; have HB1 := Aside0.mk (below_step HB0.out hb); have HF1 := Aside0.mk (blk_below HF0.out hb); have HN1 := Aside0.mk (blk_below HN0.out hb); clear hb; have zF1 := (blk_cell HF1.out 0).trans (show _ = some (Value.slice A l.length c) from rfl); obtain ⟨zN0_1, zN1_1, zN2_1, zN3_1, zN4_1, zN5_1, zN6_1, zN7_1⟩ := cells8 HN1.out)
          go_upto_region 3 with (go_at_call 10; (with_reducible refine (hfew _ (Kd.C_below HC.out HB1.out)).mono ?_); rintro e_ w2 ⟨rfl, hb⟩; have HB2 := Aside0.mk (below_step HB1.out hb); have HF2 := Aside0.mk (blk_below HF1.out hb); have HN2 := Aside0.mk (blk_below HN1.out hb); clear hb; have zF2 := (blk_cell HF2.out 0).trans (show _ = some (Value.slice A l.length c) from rfl); obtain ⟨zN0_2, zN1_2, zN2_2, zN3_2, zN4_2, zN5_2, zN6_2, zN7_2⟩ := cells8 HN2.out)
          go_upto_region 4 with (go_at_call 11; (with_reducible refine (hfew5 _).mono ?_); rintro e_ w3 ⟨rfl, hb⟩; have HB3 := Aside0.mk (below_step HB2.out hb); have HF3 := Aside0.mk (blk_below HF2.out hb); have HN3 := Aside0.mk (blk_below HN2.out hb); clear hb; have zF3 := (blk_cell HF3.out 0).trans (show _ = some (Value.slice A l.length c) from rfl); obtain ⟨zN0_3, zN1_3, zN2_3, zN3_3, zN4_3, zN5_3, zN6_3, zN7_3⟩ := cells8 HN3.out)
          go_upto_region 6 with (go_at_call 22; (with_reducible refine (hmay _ (Kd.C_below HC.out HB3.out)).mono ?_); rintro e_ w4 ⟨rfl, hb⟩; have HB4 := Aside0.mk (below_step HB3.out hb); have HF4 := Aside0.mk (blk_below HF3.out hb); have HN4 := Aside0.mk (blk_below HN3.out hb); clear hb; have zF4 := (blk_cell HF4.out 0).trans (show _ = some (Value.slice A l.length c) from rfl); obtain ⟨zN0_4, zN1_4, zN2_4, zN3_4, zN4_4, zN5_4, zN6_4, zN7_4⟩ := cells8 HN4.out)
          go_upto_region 7 with (go_at_call 12; (with_reducible refine (hput _ (Kd.C_below HC.out HB4.out)).mono ?_); rintro e_ w5 ⟨AG, cG, rfl, hR, hb⟩; have HB5 := Aside0.mk (below_alloc (below_step HB4.out hb) (.cells #[.slice AG g.length cG] 24)); have HF5 := Aside0.mk (blk_alloc (blk_below HF4.out hb) (.cells #[.slice AG g.length cG] 24)); have HN5 := Aside0.mk (blk_alloc (blk_below HN4.out hb) (.cells #[.slice AG g.length cG] 24)); have HRG5 := Aside0.mk (Kd.R_alloc hR.out (.cells #[.slice AG g.length cG] 24)); have HG5 := Aside0.mk (heap_alloc_new w5 (.cells #[.slice AG g.length cG] 24)); clear hb hR; have zF5 := (blk_cell HF5.out 0).trans (show _ = some (Value.slice A l.length c) from rfl); obtain ⟨zN0_5, zN1_5, zN2_5, zN3_5, zN4_5, zN5_5, zN6_5, zN7_5⟩ := cells8 HN5.out; have zG5 := (blk_cell HG5.out 0).trans (show _ = some (Value.slice AG g.length cG) from rfl))
          go_upto_region 8 with (go_at_call 24; (with_reducible refine (hpar _).mono ?_); rintro e_ w6 ⟨rfl, hb⟩; have HB6 := Aside0.mk (below_step HB5.out hb); have HF6 := Aside0.mk (blk_below HF5.out hb); have HN6 := Aside0.mk (blk_below HN5.out hb); have HG6 := Aside0.mk (blk_below HG5.out hb); have HRG6 := Aside0.mk (Kd.R_below HRG5.out hb); clear hb; have zF6 := (blk_cell HF6.out 0).trans (show _ = some (Value.slice A l.length c) from rfl); obtain ⟨zN0_6, zN1_6, zN2_6, zN3_6, zN4_6, zN5_6, zN6_6, zN7_6⟩ := cells8 HN6.out; have zG6 := (blk_cell HG6.out 0).trans (show _ = some (Value.slice AG g.length cG) from rfl))
          go_upto_region 9 with (go_at_call 16; (with_reducible refine (hget _ (Kd.C_below HC.out HB6.out)).mono ?_); rintro e_ w7 ⟨rfl, hb⟩; have HB7 := Aside0.mk (below_alloc (below_step HB6.out hb) (.cells #[.string d.f0, .string d.f1, .int .u8 d.f2, .int .i64 d.f3, .int .i64 d.f4, .int .i64 d.f5, .int .i64 d.f6, .string d.f7] 26)); have HF7 := Aside0.mk (blk_alloc (blk_below HF6.out hb) (.cells #[.string d.f0, .string d.f1, .int .u8 d.f2, .int .i64 d.f3, .int .i64 d.f4, .int .i64 d.f5, .int .i64 d.f6, .string d.f7] 26)); have HN7 := Aside0.mk (blk_alloc (blk_below HN6.out hb) (.cells #[.string d.f0, .string d.f1, .int .u8 d.f2, .int .i64 d.f3, .int .i64 d.f4, .int .i64 d.f5, .int .i64 d.f6, .string d.f7] 26)); have HG7 := Aside0.mk (blk_alloc (blk_below HG6.out hb) (.cells #[.string d.f0, .string d.f1, .int .u8 d.f2, .int .i64 d.f3, .int .i64 d.f4, .int .i64 d.f5, .int .i64 d.f6, .string d.f7] 26)); have HRG7 := Aside0.mk (Kd.R_alloc (Kd.R_below HRG6.out hb) (.cells #[.string d.f0, .string d.f1, .int .u8 d.f2, .int .i64 d.f3, .int .i64 d.f4, .int .i64 d.f5, .int .i64 d.f6, .string d.f7] 26)); have HD7 := Aside0.mk (heap_alloc_new w7 (.cells #[.string d.f0, .string d.f1, .int .u8 d.f2, .int .i64 d.f3, .int .i64 d.f4, .int .i64 d.f5, .int .i64 d.f6, .string d.f7] 26)); clear hb; have zF7 := (blk_cell HF7.out 0).trans (show _ = some (Value.slice A l.length c) from rfl); obtain ⟨zN0_7, zN1_7, zN2_7, zN3_7, zN4_7, zN5_7, zN6_7, zN7_7⟩ := cells8 HN7.out; have zG7 := (blk_cell HG7.out 0).trans (show _ = some (Value.slice AG g.length cG) from rfl); obtain ⟨zD0_7, zD1_7, zD2_7, zD3_7, zD4_7, zD5_7, zD6_7, zD7_7⟩ := cells8 HD7.out)
          go_wp2_with (fail)
          go_ret
          exact ⟨rfl, HB7.out⟩
theorem reelkeeperlaw19_FsSafe.calls (k : Nat) (A : Option Addr) (c : Nat) (l : List Nd) (n0 n1 : ByteArray) (n2 n3 n4 n5 n6 : Int) (n7 : ByteArray) (r : Bool) (w : World) (hC : Kd.C kNd w A l.length l) (hc : l.length ≤ c) (h : reelkeeperlaw19_FsSafe.f k l n0 n1 n2 n3 n4 n5 n6 n7 = some r) :
    Calls Try.prog 5 #[.agg #[.slice A l.length c], .agg #[.string n0, .string n1, .int .u8 n2, .int .i64 n3, .int .i64 n4, .int .i64 n5, .int .i64 n6, .string n7]] w fun e w' => e = .returned (.bool r) ∧ Below w.heap.size w w' := by
  obtain rfl : true = r := Option.some.inj h
  exact fs_safe.at_ A c l ⟨n0, n1, n2, n3, n4, n5, n6, n7⟩ w hC hc

end Go.Proofs.Ytklbnfpjjcidiaa.X
