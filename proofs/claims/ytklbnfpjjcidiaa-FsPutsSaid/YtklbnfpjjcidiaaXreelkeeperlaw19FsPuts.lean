import Derived.Test.YtklbnfpjjcidiaaXK
import Derived.Test.YtklbnfpjjcidiaaXE26
import Derived.Test.YtklbnfpjjcidiaaXGfsa
import Derived.Test.YtklbnfpjjcidiaaXGfsc
import Derived.Test.YtklbnfpjjcidiaaXGfsd
import Derived.Test.YtklbnfpjjcidiaaXGfse
import Derived.Test.YtklbnfpjjcidiaaXGslices
import Derived.Test.YtklbnfpjjcidiaaXreelkeeperlaw05Few
import Derived.Test.YtklbnfpjjcidiaaXreelkeeperlaw06Few
import Derived.Test.YtklbnfpjjcidiaaYAll
import Derived.Test.YtklbnfpjjcidiaaP02p
import Derived.Test.YtklbnfpjjcidiaaP06a
import Derived.Test.YtklbnfpjjcidiaaPGA
import Derived.Deep.RegionHeld3
import Derived.Laws.EntriesVeiled
import Derived.WalkSpells
namespace Go.Proofs.Ytklbnfpjjcidiaa.X
open Go.RowKit Go.Proofs.YtklbnfpjjcidiaaW.PrintWords Go.Proofs.YtklbnfpjjcidiaaW.PrintLast Go.Proofs.YtklbnfpjjcidiaaW.PrintMore
attribute [local go_sem] max2_int min2_int max_two min_two
set_option linter.unusedVariables false
set_option linter.unusedSimpArgs false

attribute [local go_sem high] eqA26
open Go.Proofs.YtklbnfpjjcidiaaY
set_option maxRecDepth 100000
def reelkeeperlaw19_FsPuts.f (k : Nat) (l0 : List Nd) (n0 n1 : ByteArray) (n2 n3 n4 n5 n6 : Int) (n7 : ByteArray) (p : ByteArray) : Option Bool := some true
theorem FsPuts_told (l : List Nd) (n : Nd) (p : ByteArray) : ∃ k, reelkeeperlaw19_FsPuts.f k l n.f0 n.f1 n.f2 n.f3 n.f4 n.f5 n.f6 n.f7 p = some true := ⟨0, rfl⟩
set_option maxHeartbeats 3200000 in
theorem fs_puts.at_ (A : Option Addr) (c : Nat) (l : List Nd) (n : Nd) (p : ByteArray) (w : World) (hC : Kd.C kNd w A l.length l) (hc : l.length ≤ c) :
    Calls Try.prog 4 #[.agg #[.slice A l.length c], .agg #[.string n.f0, .string n.f1, .int .u8 n.f2, .int .i64 n.f3, .int .i64 n.f4, .int .i64 n.f5, .int .i64 n.f6, .string n.f7], .string p] w fun e w' => e = .returned (.bool true) ∧ Below w.heap.size w w' := by
  have HC := Aside0.mk hC
  have hup := fun W => awake19.at_ W
  obtain ⟨kf, hkf⟩ := Ev.rounds (few_ev l)
  have hfew := fun W hC' => reelkeeperlaw06_Few.calls kf A c l _ W hC' hc hkf
  have hfew5 := fun W => reelkeeperlaw05_Few.calls n.f0 n.f1 n.f2 n.f3 n.f4 n.f5 n.f6 n.f7 _ W (few5 n)
  clear hkf hC
  cases hf : fewL l with
  | false =>
    rw [hf] at hfew
    clear hf
    generalize okN n = o at *
    have HB0 := Aside0.mk (Below.refl w.heap.size w)
    have HB0 := Aside0.mk (below_alloc HB0.out (.cells #[.slice A l.length c] 24))
    have HF0 := heap_alloc_new w (.cells #[.slice A l.length c] 24)
    have HF0 := Aside0.mk HF0
    have HB0 := Aside0.mk (below_alloc HB0.out (.cells #[.string n.f0, .string n.f1, .int .u8 n.f2, .int .i64 n.f3, .int .i64 n.f4, .int .i64 n.f5, .int .i64 n.f6, .string n.f7] 26))
    have HF0 := Aside0.mk (blk_alloc HF0.out (.cells #[.string n.f0, .string n.f1, .int .u8 n.f2, .int .i64 n.f3, .int .i64 n.f4, .int .i64 n.f5, .int .i64 n.f6, .string n.f7] 26))
    have HN0 := heap_alloc_new (w.alloc (.cells #[.slice A l.length c] 24)) (.cells #[.string n.f0, .string n.f1, .int .u8 n.f2, .int .i64 n.f3, .int .i64 n.f4, .int .i64 n.f5, .int .i64 n.f6, .string n.f7] 26)
    rw [show (w.alloc (.cells #[.slice A l.length c] 24)).heap.size = w.heap.size + 1 by simp] at HN0
    have HN0 := Aside0.mk HN0
    have zF0 := (blk_cell HF0.out 0).trans (show _ = some (Value.slice A l.length c) from rfl)
    obtain ⟨zN0_0, zN1_0, zN2_0, zN3_0, zN4_0, zN5_0, zN6_0, zN7_0⟩ := cells8 HN0.out
    go_enter Try.func4, Try.ntmps4
    go_wp2_with (first | (go_at_call 9; (with_reducible refine (hup _).mono ?_); rintro e_ w1 ⟨rfl, hb⟩; have HB1 := Aside0.mk (below_step HB0.out hb); have HF1 := Aside0.mk (blk_below HF0.out hb); have HN1 := Aside0.mk (blk_below HN0.out hb); clear hb; have zF1 := (blk_cell HF1.out 0).trans (show _ = some (Value.slice A l.length c) from rfl); obtain ⟨zN0_1, zN1_1, zN2_1, zN3_1, zN4_1, zN5_1, zN6_1, zN7_1⟩ := cells8 HN1.out) | (go_at_call 10; (with_reducible refine (hfew _ (Kd.C_below HC.out HB1.out)).mono ?_); rintro e_ w2 ⟨rfl, hb⟩; have HB2 := Aside0.mk (below_step HB1.out hb); have HF2 := Aside0.mk (blk_below HF1.out hb); have HN2 := Aside0.mk (blk_below HN1.out hb); clear hb; have zF2 := (blk_cell HF2.out 0).trans (show _ = some (Value.slice A l.length c) from rfl); obtain ⟨zN0_2, zN1_2, zN2_2, zN3_2, zN4_2, zN5_2, zN6_2, zN7_2⟩ := cells8 HN2.out) | (go_at_call 11; (with_reducible refine (hfew5 _).mono ?_); rintro e_ w3 ⟨rfl, hb⟩; have HB3 := Aside0.mk (below_step HB2.out hb); have HF3 := Aside0.mk (blk_below HF2.out hb); have HN3 := Aside0.mk (blk_below HN2.out hb); clear hb; have zF3 := (blk_cell HF3.out 0).trans (show _ = some (Value.slice A l.length c) from rfl); obtain ⟨zN0_3, zN1_3, zN2_3, zN3_3, zN4_3, zN5_3, zN6_3, zN7_3⟩ := cells8 HN3.out))
    go_ret
    exact ⟨rfl, HB3.out⟩
  | true =>
    rw [hf] at hfew
    obtain ⟨hl30, hok⟩ := fewL_iff.1 hf
    have hl : l.length ≤ 1000 := by omega
    cases hn : okN n with
    | false =>
      rw [hn] at hfew5
      clear hn hf hok
      have HB0 := Aside0.mk (Below.refl w.heap.size w)
      have HB0 := Aside0.mk (below_alloc HB0.out (.cells #[.slice A l.length c] 24))
      have HF0 := heap_alloc_new w (.cells #[.slice A l.length c] 24)
      have HF0 := Aside0.mk HF0
      have HB0 := Aside0.mk (below_alloc HB0.out (.cells #[.string n.f0, .string n.f1, .int .u8 n.f2, .int .i64 n.f3, .int .i64 n.f4, .int .i64 n.f5, .int .i64 n.f6, .string n.f7] 26))
      have HF0 := Aside0.mk (blk_alloc HF0.out (.cells #[.string n.f0, .string n.f1, .int .u8 n.f2, .int .i64 n.f3, .int .i64 n.f4, .int .i64 n.f5, .int .i64 n.f6, .string n.f7] 26))
      have HN0 := heap_alloc_new (w.alloc (.cells #[.slice A l.length c] 24)) (.cells #[.string n.f0, .string n.f1, .int .u8 n.f2, .int .i64 n.f3, .int .i64 n.f4, .int .i64 n.f5, .int .i64 n.f6, .string n.f7] 26)
      rw [show (w.alloc (.cells #[.slice A l.length c] 24)).heap.size = w.heap.size + 1 by simp] at HN0
      have HN0 := Aside0.mk HN0
      have zF0 := (blk_cell HF0.out 0).trans (show _ = some (Value.slice A l.length c) from rfl)
      obtain ⟨zN0_0, zN1_0, zN2_0, zN3_0, zN4_0, zN5_0, zN6_0, zN7_0⟩ := cells8 HN0.out
      go_enter Try.func4, Try.ntmps4
      go_wp2_with (first | (go_at_call 9; (with_reducible refine (hup _).mono ?_); rintro e_ w1 ⟨rfl, hb⟩; have HB1 := Aside0.mk (below_step HB0.out hb); have HF1 := Aside0.mk (blk_below HF0.out hb); have HN1 := Aside0.mk (blk_below HN0.out hb); clear hb; have zF1 := (blk_cell HF1.out 0).trans (show _ = some (Value.slice A l.length c) from rfl); obtain ⟨zN0_1, zN1_1, zN2_1, zN3_1, zN4_1, zN5_1, zN6_1, zN7_1⟩ := cells8 HN1.out) | (go_at_call 10; (with_reducible refine (hfew _ (Kd.C_below HC.out HB1.out)).mono ?_); rintro e_ w2 ⟨rfl, hb⟩; have HB2 := Aside0.mk (below_step HB1.out hb); have HF2 := Aside0.mk (blk_below HF1.out hb); have HN2 := Aside0.mk (blk_below HN1.out hb); clear hb; have zF2 := (blk_cell HF2.out 0).trans (show _ = some (Value.slice A l.length c) from rfl); obtain ⟨zN0_2, zN1_2, zN2_2, zN3_2, zN4_2, zN5_2, zN6_2, zN7_2⟩ := cells8 HN2.out) | (go_at_call 11; (with_reducible refine (hfew5 _).mono ?_); rintro e_ w3 ⟨rfl, hb⟩; have HB3 := Aside0.mk (below_step HB2.out hb); have HF3 := Aside0.mk (blk_below HF2.out hb); have HN3 := Aside0.mk (blk_below HN2.out hb); clear hb; have zF3 := (blk_cell HF3.out 0).trans (show _ = some (Value.slice A l.length c) from rfl); obtain ⟨zN0_3, zN1_3, zN2_3, zN3_3, zN4_3, zN5_3, zN6_3, zN7_3⟩ := cells8 HN3.out))
      go_ret
      exact ⟨rfl, HB3.out⟩
    | true =>
      rw [hn] at hfew5
      by_cases hp4 : (p.size : Int) > 400
      · have hp4d : decide ((p.size : Int) > 400) = true := decide_eq_true hp4
        have hp4n : decide (400 < p.size) = true := decide_eq_true (by omega)
        clear hn hf hok
        have HB0 := Aside0.mk (Below.refl w.heap.size w)
        have HB0 := Aside0.mk (below_alloc HB0.out (.cells #[.slice A l.length c] 24))
        have HF0 := heap_alloc_new w (.cells #[.slice A l.length c] 24)
        have HF0 := Aside0.mk HF0
        have HB0 := Aside0.mk (below_alloc HB0.out (.cells #[.string n.f0, .string n.f1, .int .u8 n.f2, .int .i64 n.f3, .int .i64 n.f4, .int .i64 n.f5, .int .i64 n.f6, .string n.f7] 26))
        have HF0 := Aside0.mk (blk_alloc HF0.out (.cells #[.string n.f0, .string n.f1, .int .u8 n.f2, .int .i64 n.f3, .int .i64 n.f4, .int .i64 n.f5, .int .i64 n.f6, .string n.f7] 26))
        have HN0 := heap_alloc_new (w.alloc (.cells #[.slice A l.length c] 24)) (.cells #[.string n.f0, .string n.f1, .int .u8 n.f2, .int .i64 n.f3, .int .i64 n.f4, .int .i64 n.f5, .int .i64 n.f6, .string n.f7] 26)
        rw [show (w.alloc (.cells #[.slice A l.length c] 24)).heap.size = w.heap.size + 1 by simp] at HN0
        have HN0 := Aside0.mk HN0
        have zF0 := (blk_cell HF0.out 0).trans (show _ = some (Value.slice A l.length c) from rfl)
        obtain ⟨zN0_0, zN1_0, zN2_0, zN3_0, zN4_0, zN5_0, zN6_0, zN7_0⟩ := cells8 HN0.out
        go_enter Try.func4, Try.ntmps4
        go_wp2_with (first | (go_at_call 9; (with_reducible refine (hup _).mono ?_); rintro e_ w1 ⟨rfl, hb⟩; have HB1 := Aside0.mk (below_step HB0.out hb); have HF1 := Aside0.mk (blk_below HF0.out hb); have HN1 := Aside0.mk (blk_below HN0.out hb); clear hb; have zF1 := (blk_cell HF1.out 0).trans (show _ = some (Value.slice A l.length c) from rfl); obtain ⟨zN0_1, zN1_1, zN2_1, zN3_1, zN4_1, zN5_1, zN6_1, zN7_1⟩ := cells8 HN1.out) | (go_at_call 10; (with_reducible refine (hfew _ (Kd.C_below HC.out HB1.out)).mono ?_); rintro e_ w2 ⟨rfl, hb⟩; have HB2 := Aside0.mk (below_step HB1.out hb); have HF2 := Aside0.mk (blk_below HF1.out hb); have HN2 := Aside0.mk (blk_below HN1.out hb); clear hb; have zF2 := (blk_cell HF2.out 0).trans (show _ = some (Value.slice A l.length c) from rfl); obtain ⟨zN0_2, zN1_2, zN2_2, zN3_2, zN4_2, zN5_2, zN6_2, zN7_2⟩ := cells8 HN2.out) | (go_at_call 11; (with_reducible refine (hfew5 _).mono ?_); rintro e_ w3 ⟨rfl, hb⟩; have HB3 := Aside0.mk (below_step HB2.out hb); have HF3 := Aside0.mk (blk_below HF2.out hb); have HN3 := Aside0.mk (blk_below HN2.out hb); clear hb; have zF3 := (blk_cell HF3.out 0).trans (show _ = some (Value.slice A l.length c) from rfl); obtain ⟨zN0_3, zN1_3, zN2_3, zN3_3, zN4_3, zN5_3, zN6_3, zN7_3⟩ := cells8 HN3.out))
        go_ret
        exact ⟨rfl, HB3.out⟩
      have hp4d : decide ((p.size : Int) > 400) = false := decide_eq_false hp4
      have hp4n : decide (400 < p.size) = false := decide_eq_false (by omega)
      have hmay := fun W hC' => fs_May.at_ A c l W hC' hl hok
      have hput := fun W hC' => fs_Put.at_ A c l n W hC' hl hok hn
      have hget2 := fun W hC' => fs_Get.at_ A c l p W hC' hl hok
      simp only [nodeV] at hget2
      cases hm : fsMay l with
      | false =>
        rw [hm] at hmay
        clear hm hput hget2 hf hok
        have HB0 := Aside0.mk (Below.refl w.heap.size w)
        have HB0 := Aside0.mk (below_alloc HB0.out (.cells #[.slice A l.length c] 24))
        have HF0 := heap_alloc_new w (.cells #[.slice A l.length c] 24)
        have HF0 := Aside0.mk HF0
        have HB0 := Aside0.mk (below_alloc HB0.out (.cells #[.string n.f0, .string n.f1, .int .u8 n.f2, .int .i64 n.f3, .int .i64 n.f4, .int .i64 n.f5, .int .i64 n.f6, .string n.f7] 26))
        have HF0 := Aside0.mk (blk_alloc HF0.out (.cells #[.string n.f0, .string n.f1, .int .u8 n.f2, .int .i64 n.f3, .int .i64 n.f4, .int .i64 n.f5, .int .i64 n.f6, .string n.f7] 26))
        have HN0 := heap_alloc_new (w.alloc (.cells #[.slice A l.length c] 24)) (.cells #[.string n.f0, .string n.f1, .int .u8 n.f2, .int .i64 n.f3, .int .i64 n.f4, .int .i64 n.f5, .int .i64 n.f6, .string n.f7] 26)
        rw [show (w.alloc (.cells #[.slice A l.length c] 24)).heap.size = w.heap.size + 1 by simp] at HN0
        have HN0 := Aside0.mk HN0
        have zF0 := (blk_cell HF0.out 0).trans (show _ = some (Value.slice A l.length c) from rfl)
        obtain ⟨zN0_0, zN1_0, zN2_0, zN3_0, zN4_0, zN5_0, zN6_0, zN7_0⟩ := cells8 HN0.out
        go_enter Try.func4, Try.ntmps4
        go_wp2_with (first | (go_at_call 9; (with_reducible refine (hup _).mono ?_); rintro e_ w1 ⟨rfl, hb⟩; have HB1 := Aside0.mk (below_step HB0.out hb); have HF1 := Aside0.mk (blk_below HF0.out hb); have HN1 := Aside0.mk (blk_below HN0.out hb); clear hb; have zF1 := (blk_cell HF1.out 0).trans (show _ = some (Value.slice A l.length c) from rfl); obtain ⟨zN0_1, zN1_1, zN2_1, zN3_1, zN4_1, zN5_1, zN6_1, zN7_1⟩ := cells8 HN1.out) | (go_at_call 10; (with_reducible refine (hfew _ (Kd.C_below HC.out HB1.out)).mono ?_); rintro e_ w2 ⟨rfl, hb⟩; have HB2 := Aside0.mk (below_step HB1.out hb); have HF2 := Aside0.mk (blk_below HF1.out hb); have HN2 := Aside0.mk (blk_below HN1.out hb); clear hb; have zF2 := (blk_cell HF2.out 0).trans (show _ = some (Value.slice A l.length c) from rfl); obtain ⟨zN0_2, zN1_2, zN2_2, zN3_2, zN4_2, zN5_2, zN6_2, zN7_2⟩ := cells8 HN2.out) | (go_at_call 11; (with_reducible refine (hfew5 _).mono ?_); rintro e_ w3 ⟨rfl, hb⟩; have HB3 := Aside0.mk (below_step HB2.out hb); have HF3 := Aside0.mk (blk_below HF2.out hb); have HN3 := Aside0.mk (blk_below HN2.out hb); clear hb; have zF3 := (blk_cell HF3.out 0).trans (show _ = some (Value.slice A l.length c) from rfl); obtain ⟨zN0_3, zN1_3, zN2_3, zN3_3, zN4_3, zN5_3, zN6_3, zN7_3⟩ := cells8 HN3.out) | (go_at_call 22; (with_reducible refine (hmay _ (Kd.C_below HC.out HB3.out)).mono ?_); rintro e_ w4 ⟨rfl, hb⟩; have HB4 := Aside0.mk (below_step HB3.out hb); have HF4 := Aside0.mk (blk_below HF3.out hb); have HN4 := Aside0.mk (blk_below HN3.out hb); clear hb; have zF4 := (blk_cell HF4.out 0).trans (show _ = some (Value.slice A l.length c) from rfl); obtain ⟨zN0_4, zN1_4, zN2_4, zN3_4, zN4_4, zN5_4, zN6_4, zN7_4⟩ := cells8 HN4.out))
        go_ret
        exact ⟨rfl, HB4.out⟩
      | true =>
        rw [hm] at hmay
        by_cases he : (fsPut l n).2 = 0
        · have hlen1 : ((ins l n).length : Int) = (l.length : Int) + 1 := by rw [ins_len]; omega
          have hokg : ∀ x ∈ ins l n, okN x = true := fun x hx => by
            rcases mem_ins.1 hx with rfl | hx
            · exact hn
            · exact hok x hx
          have hlg : (ins l n).length ≤ 1000 := by rw [ins_len]; omega
          have hget1 := fun W A hC' c => fs_Get.at_ A c (ins l n) n.f0 W hC' hlg hokg
          have hget3 := fun W A hC' c => fs_Get.at_ A c (ins l n) p W hC' hlg hokg
          have hput2 := fun W A hC' c => fs_Put.at_ A c (ins l n) n W hC' hlg hokg hn
          have hmay2 := fun W A hC' c => fs_May.at_ A c (ins l n) W hC' hlg hokg
          rw [get_ins he] at hget1
          simp only [put_again he] at hput2
          rw [put_may he] at hmay2
          simp only [put_is he] at hput
          simp only [nodeV] at hget1 hget3
          have hbes : (p.toList == n.f0.toList) = true ∨ ((p.toList == n.f0.toList) = false ∧ fsGet (ins l n) p = fsGet l p) := by
            by_cases e : p.toList = n.f0.toList
            · exact .inl (beq_iff_eq.2 e)
            · exact .inr ⟨beq_eq_false_iff_ne.2 e, get_beside he (fun e2 => e e2.symm)⟩
          clear hf hok hm he hokg
          generalize fsGet (ins l n) p = r3 at *
          generalize fsGet l p = r2 at *
          obtain ⟨x, ex⟩ := r2
          obtain ⟨y, ey⟩ := r3
          simp only at hget2 hget3
          have hlw : IntKind.i64.wrap ((l.length : Int) + 1) = (l.length : Int) + 1 := by rw [i64_w]; exact wrap_id (by omega) (by omega)
          have hlb : (((ins l n).length : Int) == (l.length : Int) + 1) = true := beq_iff_eq.2 hlen1
          clear hlen1 hlg
          generalize ins l n = g at *
          rcases hbes with hb | ⟨hb, hxy⟩
          · have HB0 := Aside0.mk (Below.refl w.heap.size w)
            have HB0 := Aside0.mk (below_alloc HB0.out (.cells #[.slice A l.length c] 24))
            have HF0 := heap_alloc_new w (.cells #[.slice A l.length c] 24)
            have HF0 := Aside0.mk HF0
            have HB0 := Aside0.mk (below_alloc HB0.out (.cells #[.string n.f0, .string n.f1, .int .u8 n.f2, .int .i64 n.f3, .int .i64 n.f4, .int .i64 n.f5, .int .i64 n.f6, .string n.f7] 26))
            have HF0 := Aside0.mk (blk_alloc HF0.out (.cells #[.string n.f0, .string n.f1, .int .u8 n.f2, .int .i64 n.f3, .int .i64 n.f4, .int .i64 n.f5, .int .i64 n.f6, .string n.f7] 26))
            have HN0 := heap_alloc_new (w.alloc (.cells #[.slice A l.length c] 24)) (.cells #[.string n.f0, .string n.f1, .int .u8 n.f2, .int .i64 n.f3, .int .i64 n.f4, .int .i64 n.f5, .int .i64 n.f6, .string n.f7] 26)
            rw [show (w.alloc (.cells #[.slice A l.length c] 24)).heap.size = w.heap.size + 1 by simp] at HN0
            have HN0 := Aside0.mk HN0
            have zF0 := (blk_cell HF0.out 0).trans (show _ = some (Value.slice A l.length c) from rfl)
            obtain ⟨zN0_0, zN1_0, zN2_0, zN3_0, zN4_0, zN5_0, zN6_0, zN7_0⟩ := cells8 HN0.out
            go_enter Try.func4, Try.ntmps4
            go_upto_region 2 with (go_at_call 9; (with_reducible refine (hup _).mono ?_); rintro e_ w1 ⟨rfl, hb⟩; have HB1 := Aside0.mk (below_step HB0.out hb); have HF1 := Aside0.mk (blk_below HF0.out hb); have HN1 := Aside0.mk (blk_below HN0.out hb); clear hb; have zF1 := (blk_cell HF1.out 0).trans (show _ = some (Value.slice A l.length c) from rfl); obtain ⟨zN0_1, zN1_1, zN2_1, zN3_1, zN4_1, zN5_1, zN6_1, zN7_1⟩ := cells8 HN1.out)
            go_upto_region 3 with (go_at_call 10; (with_reducible refine (hfew _ (Kd.C_below HC.out HB1.out)).mono ?_); rintro e_ w2 ⟨rfl, hb⟩; have HB2 := Aside0.mk (below_step HB1.out hb); have HF2 := Aside0.mk (blk_below HF1.out hb); have HN2 := Aside0.mk (blk_below HN1.out hb); clear hb; have zF2 := (blk_cell HF2.out 0).trans (show _ = some (Value.slice A l.length c) from rfl); obtain ⟨zN0_2, zN1_2, zN2_2, zN3_2, zN4_2, zN5_2, zN6_2, zN7_2⟩ := cells8 HN2.out)
            go_upto_region 4 with (go_at_call 11; (with_reducible refine (hfew5 _).mono ?_); rintro e_ w3 ⟨rfl, hb⟩; have HB3 := Aside0.mk (below_step HB2.out hb); have HF3 := Aside0.mk (blk_below HF2.out hb); have HN3 := Aside0.mk (blk_below HN2.out hb); clear hb; have zF3 := (blk_cell HF3.out 0).trans (show _ = some (Value.slice A l.length c) from rfl); obtain ⟨zN0_3, zN1_3, zN2_3, zN3_3, zN4_3, zN5_3, zN6_3, zN7_3⟩ := cells8 HN3.out)
            go_upto_region 6 with (go_at_call 22; (with_reducible refine (hmay _ (Kd.C_below HC.out HB3.out)).mono ?_); rintro e_ w4 ⟨rfl, hb⟩; have HB4 := Aside0.mk (below_step HB3.out hb); have HF4 := Aside0.mk (blk_below HF3.out hb); have HN4 := Aside0.mk (blk_below HN3.out hb); clear hb; have zF4 := (blk_cell HF4.out 0).trans (show _ = some (Value.slice A l.length c) from rfl); obtain ⟨zN0_4, zN1_4, zN2_4, zN3_4, zN4_4, zN5_4, zN6_4, zN7_4⟩ := cells8 HN4.out)
            go_upto_region 7 with (go_at_call 12; (with_reducible refine (hput _ (Kd.C_below HC.out HB4.out)).mono ?_); rintro e_ w5 ⟨AG, cG, rfl, hR, hb⟩; have HB5 := Aside0.mk (below_alloc (below_step HB4.out hb) (.cells #[.slice AG g.length cG] 24)); have HF5 := Aside0.mk (blk_alloc (blk_below HF4.out hb) (.cells #[.slice AG g.length cG] 24)); have HN5 := Aside0.mk (blk_alloc (blk_below HN4.out hb) (.cells #[.slice AG g.length cG] 24)); have HRG5 := Aside0.mk (Kd.R_alloc hR.out (.cells #[.slice AG g.length cG] 24)); have HG5 := Aside0.mk (heap_alloc_new w5 (.cells #[.slice AG g.length cG] 24)); clear hb hR; have zF5 := (blk_cell HF5.out 0).trans (show _ = some (Value.slice A l.length c) from rfl); obtain ⟨zN0_5, zN1_5, zN2_5, zN3_5, zN4_5, zN5_5, zN6_5, zN7_5⟩ := cells8 HN5.out; have zG5 := (blk_cell HG5.out 0).trans (show _ = some (Value.slice AG g.length cG) from rfl))
            go_upto_region 10 with (go_at_call 16; (with_reducible refine (hget1 _ AG (Kd.R_reads' HRG5.out).2.2 cG).mono ?_); rintro e_ w6 ⟨rfl, hb⟩; have HB6 := Aside0.mk (below_alloc (below_step HB5.out hb) (.cells #[.string n.f0, .string n.f1, .int .u8 n.f2, .int .i64 n.f3, .int .i64 n.f4, .int .i64 n.f5, .int .i64 n.f6, .string n.f7] 26)); have HF6 := Aside0.mk (blk_alloc (blk_below HF5.out hb) (.cells #[.string n.f0, .string n.f1, .int .u8 n.f2, .int .i64 n.f3, .int .i64 n.f4, .int .i64 n.f5, .int .i64 n.f6, .string n.f7] 26)); have HN6 := Aside0.mk (blk_alloc (blk_below HN5.out hb) (.cells #[.string n.f0, .string n.f1, .int .u8 n.f2, .int .i64 n.f3, .int .i64 n.f4, .int .i64 n.f5, .int .i64 n.f6, .string n.f7] 26)); have HG6 := Aside0.mk (blk_alloc (blk_below HG5.out hb) (.cells #[.string n.f0, .string n.f1, .int .u8 n.f2, .int .i64 n.f3, .int .i64 n.f4, .int .i64 n.f5, .int .i64 n.f6, .string n.f7] 26)); have HRG6 := Aside0.mk (Kd.R_alloc (Kd.R_below HRG5.out hb) (.cells #[.string n.f0, .string n.f1, .int .u8 n.f2, .int .i64 n.f3, .int .i64 n.f4, .int .i64 n.f5, .int .i64 n.f6, .string n.f7] 26)); have HM6 := Aside0.mk (heap_alloc_new w6 (.cells #[.string n.f0, .string n.f1, .int .u8 n.f2, .int .i64 n.f3, .int .i64 n.f4, .int .i64 n.f5, .int .i64 n.f6, .string n.f7] 26)); clear hb; have zF6 := (blk_cell HF6.out 0).trans (show _ = some (Value.slice A l.length c) from rfl); obtain ⟨zN0_6, zN1_6, zN2_6, zN3_6, zN4_6, zN5_6, zN6_6, zN7_6⟩ := cells8 HN6.out; have zG6 := (blk_cell HG6.out 0).trans (show _ = some (Value.slice AG g.length cG) from rfl); obtain ⟨zM0_6, zM1_6, zM2_6, zM3_6, zM4_6, zM5_6, zM6_6, zM7_6⟩ := cells8 HM6.out)
            go_upto_region 11 with (go_at_call 16; (with_reducible refine (hget2 _ (Kd.C_below HC.out HB6.out)).mono ?_); rintro e_ w7 ⟨rfl, hb⟩; have HB7 := Aside0.mk (below_alloc (below_step HB6.out hb) (.cells #[.string x.f0, .string x.f1, .int .u8 x.f2, .int .i64 x.f3, .int .i64 x.f4, .int .i64 x.f5, .int .i64 x.f6, .string x.f7] 26)); have HF7 := Aside0.mk (blk_alloc (blk_below HF6.out hb) (.cells #[.string x.f0, .string x.f1, .int .u8 x.f2, .int .i64 x.f3, .int .i64 x.f4, .int .i64 x.f5, .int .i64 x.f6, .string x.f7] 26)); have HN7 := Aside0.mk (blk_alloc (blk_below HN6.out hb) (.cells #[.string x.f0, .string x.f1, .int .u8 x.f2, .int .i64 x.f3, .int .i64 x.f4, .int .i64 x.f5, .int .i64 x.f6, .string x.f7] 26)); have HG7 := Aside0.mk (blk_alloc (blk_below HG6.out hb) (.cells #[.string x.f0, .string x.f1, .int .u8 x.f2, .int .i64 x.f3, .int .i64 x.f4, .int .i64 x.f5, .int .i64 x.f6, .string x.f7] 26)); have HM7 := Aside0.mk (blk_alloc (blk_below HM6.out hb) (.cells #[.string x.f0, .string x.f1, .int .u8 x.f2, .int .i64 x.f3, .int .i64 x.f4, .int .i64 x.f5, .int .i64 x.f6, .string x.f7] 26)); have HRG7 := Aside0.mk (Kd.R_alloc (Kd.R_below HRG6.out hb) (.cells #[.string x.f0, .string x.f1, .int .u8 x.f2, .int .i64 x.f3, .int .i64 x.f4, .int .i64 x.f5, .int .i64 x.f6, .string x.f7] 26)); have HP7 := Aside0.mk (heap_alloc_new w7 (.cells #[.string x.f0, .string x.f1, .int .u8 x.f2, .int .i64 x.f3, .int .i64 x.f4, .int .i64 x.f5, .int .i64 x.f6, .string x.f7] 26)); clear hb; have zF7 := (blk_cell HF7.out 0).trans (show _ = some (Value.slice A l.length c) from rfl); obtain ⟨zN0_7, zN1_7, zN2_7, zN3_7, zN4_7, zN5_7, zN6_7, zN7_7⟩ := cells8 HN7.out; have zG7 := (blk_cell HG7.out 0).trans (show _ = some (Value.slice AG g.length cG) from rfl); obtain ⟨zM0_7, zM1_7, zM2_7, zM3_7, zM4_7, zM5_7, zM6_7, zM7_7⟩ := cells8 HM7.out; obtain ⟨zP0_7, zP1_7, zP2_7, zP3_7, zP4_7, zP5_7, zP6_7, zP7_7⟩ := cells8 HP7.out)
            go_upto_region 12 with (go_at_call 16; (with_reducible refine (hget3 _ AG (Kd.R_reads' HRG7.out).2.2 cG).mono ?_); rintro e_ w8 ⟨rfl, hb⟩; have HB8 := Aside0.mk (below_alloc (below_step HB7.out hb) (.cells #[.string y.f0, .string y.f1, .int .u8 y.f2, .int .i64 y.f3, .int .i64 y.f4, .int .i64 y.f5, .int .i64 y.f6, .string y.f7] 26)); have HF8 := Aside0.mk (blk_alloc (blk_below HF7.out hb) (.cells #[.string y.f0, .string y.f1, .int .u8 y.f2, .int .i64 y.f3, .int .i64 y.f4, .int .i64 y.f5, .int .i64 y.f6, .string y.f7] 26)); have HN8 := Aside0.mk (blk_alloc (blk_below HN7.out hb) (.cells #[.string y.f0, .string y.f1, .int .u8 y.f2, .int .i64 y.f3, .int .i64 y.f4, .int .i64 y.f5, .int .i64 y.f6, .string y.f7] 26)); have HG8 := Aside0.mk (blk_alloc (blk_below HG7.out hb) (.cells #[.string y.f0, .string y.f1, .int .u8 y.f2, .int .i64 y.f3, .int .i64 y.f4, .int .i64 y.f5, .int .i64 y.f6, .string y.f7] 26)); have HM8 := Aside0.mk (blk_alloc (blk_below HM7.out hb) (.cells #[.string y.f0, .string y.f1, .int .u8 y.f2, .int .i64 y.f3, .int .i64 y.f4, .int .i64 y.f5, .int .i64 y.f6, .string y.f7] 26)); have HP8 := Aside0.mk (blk_alloc (blk_below HP7.out hb) (.cells #[.string y.f0, .string y.f1, .int .u8 y.f2, .int .i64 y.f3, .int .i64 y.f4, .int .i64 y.f5, .int .i64 y.f6, .string y.f7] 26)); have HRG8 := Aside0.mk (Kd.R_alloc (Kd.R_below HRG7.out hb) (.cells #[.string y.f0, .string y.f1, .int .u8 y.f2, .int .i64 y.f3, .int .i64 y.f4, .int .i64 y.f5, .int .i64 y.f6, .string y.f7] 26)); have HQ8 := Aside0.mk (heap_alloc_new w8 (.cells #[.string y.f0, .string y.f1, .int .u8 y.f2, .int .i64 y.f3, .int .i64 y.f4, .int .i64 y.f5, .int .i64 y.f6, .string y.f7] 26)); clear hb; have zF8 := (blk_cell HF8.out 0).trans (show _ = some (Value.slice A l.length c) from rfl); obtain ⟨zN0_8, zN1_8, zN2_8, zN3_8, zN4_8, zN5_8, zN6_8, zN7_8⟩ := cells8 HN8.out; have zG8 := (blk_cell HG8.out 0).trans (show _ = some (Value.slice AG g.length cG) from rfl); obtain ⟨zM0_8, zM1_8, zM2_8, zM3_8, zM4_8, zM5_8, zM6_8, zM7_8⟩ := cells8 HM8.out; obtain ⟨zP0_8, zP1_8, zP2_8, zP3_8, zP4_8, zP5_8, zP6_8, zP7_8⟩ := cells8 HP8.out; obtain ⟨zQ0_8, zQ1_8, zQ2_8, zQ3_8, zQ4_8, zQ5_8, zQ6_8, zQ7_8⟩ := cells8 HQ8.out)
            go_upto_region 13 with (go_at_call 12; (with_reducible refine (hput2 _ AG (Kd.R_reads' HRG8.out).2.2 cG).mono ?_); rintro e_ w9 ⟨AH, cH, rfl, hR, hb⟩; have HB9 := Aside0.mk (below_alloc (below_step HB8.out hb) (.cells #[.slice AH g.length cH] 24)); have HF9 := Aside0.mk (blk_alloc (blk_below HF8.out hb) (.cells #[.slice AH g.length cH] 24)); have HN9 := Aside0.mk (blk_alloc (blk_below HN8.out hb) (.cells #[.slice AH g.length cH] 24)); have HG9 := Aside0.mk (blk_alloc (blk_below HG8.out hb) (.cells #[.slice AH g.length cH] 24)); have HM9 := Aside0.mk (blk_alloc (blk_below HM8.out hb) (.cells #[.slice AH g.length cH] 24)); have HP9 := Aside0.mk (blk_alloc (blk_below HP8.out hb) (.cells #[.slice AH g.length cH] 24)); have HQ9 := Aside0.mk (blk_alloc (blk_below HQ8.out hb) (.cells #[.slice AH g.length cH] 24)); have HRG9 := Aside0.mk (Kd.R_alloc (Kd.R_below HRG8.out hb) (.cells #[.slice AH g.length cH] 24)); have HRH9 := Aside0.mk (Kd.R_alloc hR.out (.cells #[.slice AH g.length cH] 24)); have HH9 := Aside0.mk (heap_alloc_new w9 (.cells #[.slice AH g.length cH] 24)); clear hb hR; have zF9 := (blk_cell HF9.out 0).trans (show _ = some (Value.slice A l.length c) from rfl); obtain ⟨zN0_9, zN1_9, zN2_9, zN3_9, zN4_9, zN5_9, zN6_9, zN7_9⟩ := cells8 HN9.out; have zG9 := (blk_cell HG9.out 0).trans (show _ = some (Value.slice AG g.length cG) from rfl); obtain ⟨zM0_9, zM1_9, zM2_9, zM3_9, zM4_9, zM5_9, zM6_9, zM7_9⟩ := cells8 HM9.out; obtain ⟨zP0_9, zP1_9, zP2_9, zP3_9, zP4_9, zP5_9, zP6_9, zP7_9⟩ := cells8 HP9.out; obtain ⟨zQ0_9, zQ1_9, zQ2_9, zQ3_9, zQ4_9, zQ5_9, zQ6_9, zQ7_9⟩ := cells8 HQ9.out; have zH9 := (blk_cell HH9.out 0).trans (show _ = some (Value.slice AH g.length cH) from rfl))
            go_wp2_with (go_at_call 22; (with_reducible refine (hmay2 _ AG (Kd.R_reads' HRG9.out).2.2 cG).mono ?_); rintro e_ w10 ⟨rfl, hb⟩; have HB10 := Aside0.mk (below_step HB9.out hb); have HF10 := Aside0.mk (blk_below HF9.out hb); have HN10 := Aside0.mk (blk_below HN9.out hb); have HG10 := Aside0.mk (blk_below HG9.out hb); have HM10 := Aside0.mk (blk_below HM9.out hb); have HP10 := Aside0.mk (blk_below HP9.out hb); have HQ10 := Aside0.mk (blk_below HQ9.out hb); have HH10 := Aside0.mk (blk_below HH9.out hb); have HRG10 := Aside0.mk (Kd.R_below HRG9.out hb); have HRH10 := Aside0.mk (Kd.R_below HRH9.out hb); clear hb; have zF10 := (blk_cell HF10.out 0).trans (show _ = some (Value.slice A l.length c) from rfl); obtain ⟨zN0_10, zN1_10, zN2_10, zN3_10, zN4_10, zN5_10, zN6_10, zN7_10⟩ := cells8 HN10.out; have zG10 := (blk_cell HG10.out 0).trans (show _ = some (Value.slice AG g.length cG) from rfl); obtain ⟨zM0_10, zM1_10, zM2_10, zM3_10, zM4_10, zM5_10, zM6_10, zM7_10⟩ := cells8 HM10.out; obtain ⟨zP0_10, zP1_10, zP2_10, zP3_10, zP4_10, zP5_10, zP6_10, zP7_10⟩ := cells8 HP10.out; obtain ⟨zQ0_10, zQ1_10, zQ2_10, zQ3_10, zQ4_10, zQ5_10, zQ6_10, zQ7_10⟩ := cells8 HQ10.out; have zH10 := (blk_cell HH10.out 0).trans (show _ = some (Value.slice AH g.length cH) from rfl))
            go_ret
            exact ⟨rfl, HB10.out⟩
          · obtain ⟨rfl, rfl⟩ := Prod.mk.inj hxy
            clear hxy
            have HB0 := Aside0.mk (Below.refl w.heap.size w)
            have HB0 := Aside0.mk (below_alloc HB0.out (.cells #[.slice A l.length c] 24))
            have HF0 := heap_alloc_new w (.cells #[.slice A l.length c] 24)
            have HF0 := Aside0.mk HF0
            have HB0 := Aside0.mk (below_alloc HB0.out (.cells #[.string n.f0, .string n.f1, .int .u8 n.f2, .int .i64 n.f3, .int .i64 n.f4, .int .i64 n.f5, .int .i64 n.f6, .string n.f7] 26))
            have HF0 := Aside0.mk (blk_alloc HF0.out (.cells #[.string n.f0, .string n.f1, .int .u8 n.f2, .int .i64 n.f3, .int .i64 n.f4, .int .i64 n.f5, .int .i64 n.f6, .string n.f7] 26))
            have HN0 := heap_alloc_new (w.alloc (.cells #[.slice A l.length c] 24)) (.cells #[.string n.f0, .string n.f1, .int .u8 n.f2, .int .i64 n.f3, .int .i64 n.f4, .int .i64 n.f5, .int .i64 n.f6, .string n.f7] 26)
            rw [show (w.alloc (.cells #[.slice A l.length c] 24)).heap.size = w.heap.size + 1 by simp] at HN0
            have HN0 := Aside0.mk HN0
            have zF0 := (blk_cell HF0.out 0).trans (show _ = some (Value.slice A l.length c) from rfl)
            obtain ⟨zN0_0, zN1_0, zN2_0, zN3_0, zN4_0, zN5_0, zN6_0, zN7_0⟩ := cells8 HN0.out
            go_enter Try.func4, Try.ntmps4
            go_upto_region 2 with (go_at_call 9; (with_reducible refine (hup _).mono ?_); rintro e_ w1 ⟨rfl, hb⟩; have HB1 := Aside0.mk (below_step HB0.out hb); have HF1 := Aside0.mk (blk_below HF0.out hb); have HN1 := Aside0.mk (blk_below HN0.out hb); clear hb; have zF1 := (blk_cell HF1.out 0).trans (show _ = some (Value.slice A l.length c) from rfl); obtain ⟨zN0_1, zN1_1, zN2_1, zN3_1, zN4_1, zN5_1, zN6_1, zN7_1⟩ := cells8 HN1.out)
            go_upto_region 3 with (go_at_call 10; (with_reducible refine (hfew _ (Kd.C_below HC.out HB1.out)).mono ?_); rintro e_ w2 ⟨rfl, hb⟩; have HB2 := Aside0.mk (below_step HB1.out hb); have HF2 := Aside0.mk (blk_below HF1.out hb); have HN2 := Aside0.mk (blk_below HN1.out hb); clear hb; have zF2 := (blk_cell HF2.out 0).trans (show _ = some (Value.slice A l.length c) from rfl); obtain ⟨zN0_2, zN1_2, zN2_2, zN3_2, zN4_2, zN5_2, zN6_2, zN7_2⟩ := cells8 HN2.out)
            go_upto_region 4 with (go_at_call 11; (with_reducible refine (hfew5 _).mono ?_); rintro e_ w3 ⟨rfl, hb⟩; have HB3 := Aside0.mk (below_step HB2.out hb); have HF3 := Aside0.mk (blk_below HF2.out hb); have HN3 := Aside0.mk (blk_below HN2.out hb); clear hb; have zF3 := (blk_cell HF3.out 0).trans (show _ = some (Value.slice A l.length c) from rfl); obtain ⟨zN0_3, zN1_3, zN2_3, zN3_3, zN4_3, zN5_3, zN6_3, zN7_3⟩ := cells8 HN3.out)
            go_upto_region 6 with (go_at_call 22; (with_reducible refine (hmay _ (Kd.C_below HC.out HB3.out)).mono ?_); rintro e_ w4 ⟨rfl, hb⟩; have HB4 := Aside0.mk (below_step HB3.out hb); have HF4 := Aside0.mk (blk_below HF3.out hb); have HN4 := Aside0.mk (blk_below HN3.out hb); clear hb; have zF4 := (blk_cell HF4.out 0).trans (show _ = some (Value.slice A l.length c) from rfl); obtain ⟨zN0_4, zN1_4, zN2_4, zN3_4, zN4_4, zN5_4, zN6_4, zN7_4⟩ := cells8 HN4.out)
            go_upto_region 7 with (go_at_call 12; (with_reducible refine (hput _ (Kd.C_below HC.out HB4.out)).mono ?_); rintro e_ w5 ⟨AG, cG, rfl, hR, hb⟩; have HB5 := Aside0.mk (below_alloc (below_step HB4.out hb) (.cells #[.slice AG g.length cG] 24)); have HF5 := Aside0.mk (blk_alloc (blk_below HF4.out hb) (.cells #[.slice AG g.length cG] 24)); have HN5 := Aside0.mk (blk_alloc (blk_below HN4.out hb) (.cells #[.slice AG g.length cG] 24)); have HRG5 := Aside0.mk (Kd.R_alloc hR.out (.cells #[.slice AG g.length cG] 24)); have HG5 := Aside0.mk (heap_alloc_new w5 (.cells #[.slice AG g.length cG] 24)); clear hb hR; have zF5 := (blk_cell HF5.out 0).trans (show _ = some (Value.slice A l.length c) from rfl); obtain ⟨zN0_5, zN1_5, zN2_5, zN3_5, zN4_5, zN5_5, zN6_5, zN7_5⟩ := cells8 HN5.out; have zG5 := (blk_cell HG5.out 0).trans (show _ = some (Value.slice AG g.length cG) from rfl))
            go_upto_region 10 with (go_at_call 16; (with_reducible refine (hget1 _ AG (Kd.R_reads' HRG5.out).2.2 cG).mono ?_); rintro e_ w6 ⟨rfl, hb⟩; have HB6 := Aside0.mk (below_alloc (below_step HB5.out hb) (.cells #[.string n.f0, .string n.f1, .int .u8 n.f2, .int .i64 n.f3, .int .i64 n.f4, .int .i64 n.f5, .int .i64 n.f6, .string n.f7] 26)); have HF6 := Aside0.mk (blk_alloc (blk_below HF5.out hb) (.cells #[.string n.f0, .string n.f1, .int .u8 n.f2, .int .i64 n.f3, .int .i64 n.f4, .int .i64 n.f5, .int .i64 n.f6, .string n.f7] 26)); have HN6 := Aside0.mk (blk_alloc (blk_below HN5.out hb) (.cells #[.string n.f0, .string n.f1, .int .u8 n.f2, .int .i64 n.f3, .int .i64 n.f4, .int .i64 n.f5, .int .i64 n.f6, .string n.f7] 26)); have HG6 := Aside0.mk (blk_alloc (blk_below HG5.out hb) (.cells #[.string n.f0, .string n.f1, .int .u8 n.f2, .int .i64 n.f3, .int .i64 n.f4, .int .i64 n.f5, .int .i64 n.f6, .string n.f7] 26)); have HRG6 := Aside0.mk (Kd.R_alloc (Kd.R_below HRG5.out hb) (.cells #[.string n.f0, .string n.f1, .int .u8 n.f2, .int .i64 n.f3, .int .i64 n.f4, .int .i64 n.f5, .int .i64 n.f6, .string n.f7] 26)); have HM6 := Aside0.mk (heap_alloc_new w6 (.cells #[.string n.f0, .string n.f1, .int .u8 n.f2, .int .i64 n.f3, .int .i64 n.f4, .int .i64 n.f5, .int .i64 n.f6, .string n.f7] 26)); clear hb; have zF6 := (blk_cell HF6.out 0).trans (show _ = some (Value.slice A l.length c) from rfl); obtain ⟨zN0_6, zN1_6, zN2_6, zN3_6, zN4_6, zN5_6, zN6_6, zN7_6⟩ := cells8 HN6.out; have zG6 := (blk_cell HG6.out 0).trans (show _ = some (Value.slice AG g.length cG) from rfl); obtain ⟨zM0_6, zM1_6, zM2_6, zM3_6, zM4_6, zM5_6, zM6_6, zM7_6⟩ := cells8 HM6.out)
            go_upto_region 11 with (go_at_call 16; (with_reducible refine (hget2 _ (Kd.C_below HC.out HB6.out)).mono ?_); rintro e_ w7 ⟨rfl, hb⟩; have HB7 := Aside0.mk (below_alloc (below_step HB6.out hb) (.cells #[.string y.f0, .string y.f1, .int .u8 y.f2, .int .i64 y.f3, .int .i64 y.f4, .int .i64 y.f5, .int .i64 y.f6, .string y.f7] 26)); have HF7 := Aside0.mk (blk_alloc (blk_below HF6.out hb) (.cells #[.string y.f0, .string y.f1, .int .u8 y.f2, .int .i64 y.f3, .int .i64 y.f4, .int .i64 y.f5, .int .i64 y.f6, .string y.f7] 26)); have HN7 := Aside0.mk (blk_alloc (blk_below HN6.out hb) (.cells #[.string y.f0, .string y.f1, .int .u8 y.f2, .int .i64 y.f3, .int .i64 y.f4, .int .i64 y.f5, .int .i64 y.f6, .string y.f7] 26)); have HG7 := Aside0.mk (blk_alloc (blk_below HG6.out hb) (.cells #[.string y.f0, .string y.f1, .int .u8 y.f2, .int .i64 y.f3, .int .i64 y.f4, .int .i64 y.f5, .int .i64 y.f6, .string y.f7] 26)); have HM7 := Aside0.mk (blk_alloc (blk_below HM6.out hb) (.cells #[.string y.f0, .string y.f1, .int .u8 y.f2, .int .i64 y.f3, .int .i64 y.f4, .int .i64 y.f5, .int .i64 y.f6, .string y.f7] 26)); have HRG7 := Aside0.mk (Kd.R_alloc (Kd.R_below HRG6.out hb) (.cells #[.string y.f0, .string y.f1, .int .u8 y.f2, .int .i64 y.f3, .int .i64 y.f4, .int .i64 y.f5, .int .i64 y.f6, .string y.f7] 26)); have HP7 := Aside0.mk (heap_alloc_new w7 (.cells #[.string y.f0, .string y.f1, .int .u8 y.f2, .int .i64 y.f3, .int .i64 y.f4, .int .i64 y.f5, .int .i64 y.f6, .string y.f7] 26)); clear hb; have zF7 := (blk_cell HF7.out 0).trans (show _ = some (Value.slice A l.length c) from rfl); obtain ⟨zN0_7, zN1_7, zN2_7, zN3_7, zN4_7, zN5_7, zN6_7, zN7_7⟩ := cells8 HN7.out; have zG7 := (blk_cell HG7.out 0).trans (show _ = some (Value.slice AG g.length cG) from rfl); obtain ⟨zM0_7, zM1_7, zM2_7, zM3_7, zM4_7, zM5_7, zM6_7, zM7_7⟩ := cells8 HM7.out; obtain ⟨zP0_7, zP1_7, zP2_7, zP3_7, zP4_7, zP5_7, zP6_7, zP7_7⟩ := cells8 HP7.out)
            go_upto_region 12 with (go_at_call 16; (with_reducible refine (hget3 _ AG (Kd.R_reads' HRG7.out).2.2 cG).mono ?_); rintro e_ w8 ⟨rfl, hb⟩; have HB8 := Aside0.mk (below_alloc (below_step HB7.out hb) (.cells #[.string y.f0, .string y.f1, .int .u8 y.f2, .int .i64 y.f3, .int .i64 y.f4, .int .i64 y.f5, .int .i64 y.f6, .string y.f7] 26)); have HF8 := Aside0.mk (blk_alloc (blk_below HF7.out hb) (.cells #[.string y.f0, .string y.f1, .int .u8 y.f2, .int .i64 y.f3, .int .i64 y.f4, .int .i64 y.f5, .int .i64 y.f6, .string y.f7] 26)); have HN8 := Aside0.mk (blk_alloc (blk_below HN7.out hb) (.cells #[.string y.f0, .string y.f1, .int .u8 y.f2, .int .i64 y.f3, .int .i64 y.f4, .int .i64 y.f5, .int .i64 y.f6, .string y.f7] 26)); have HG8 := Aside0.mk (blk_alloc (blk_below HG7.out hb) (.cells #[.string y.f0, .string y.f1, .int .u8 y.f2, .int .i64 y.f3, .int .i64 y.f4, .int .i64 y.f5, .int .i64 y.f6, .string y.f7] 26)); have HM8 := Aside0.mk (blk_alloc (blk_below HM7.out hb) (.cells #[.string y.f0, .string y.f1, .int .u8 y.f2, .int .i64 y.f3, .int .i64 y.f4, .int .i64 y.f5, .int .i64 y.f6, .string y.f7] 26)); have HP8 := Aside0.mk (blk_alloc (blk_below HP7.out hb) (.cells #[.string y.f0, .string y.f1, .int .u8 y.f2, .int .i64 y.f3, .int .i64 y.f4, .int .i64 y.f5, .int .i64 y.f6, .string y.f7] 26)); have HRG8 := Aside0.mk (Kd.R_alloc (Kd.R_below HRG7.out hb) (.cells #[.string y.f0, .string y.f1, .int .u8 y.f2, .int .i64 y.f3, .int .i64 y.f4, .int .i64 y.f5, .int .i64 y.f6, .string y.f7] 26)); have HQ8 := Aside0.mk (heap_alloc_new w8 (.cells #[.string y.f0, .string y.f1, .int .u8 y.f2, .int .i64 y.f3, .int .i64 y.f4, .int .i64 y.f5, .int .i64 y.f6, .string y.f7] 26)); clear hb; have zF8 := (blk_cell HF8.out 0).trans (show _ = some (Value.slice A l.length c) from rfl); obtain ⟨zN0_8, zN1_8, zN2_8, zN3_8, zN4_8, zN5_8, zN6_8, zN7_8⟩ := cells8 HN8.out; have zG8 := (blk_cell HG8.out 0).trans (show _ = some (Value.slice AG g.length cG) from rfl); obtain ⟨zM0_8, zM1_8, zM2_8, zM3_8, zM4_8, zM5_8, zM6_8, zM7_8⟩ := cells8 HM8.out; obtain ⟨zP0_8, zP1_8, zP2_8, zP3_8, zP4_8, zP5_8, zP6_8, zP7_8⟩ := cells8 HP8.out; obtain ⟨zQ0_8, zQ1_8, zQ2_8, zQ3_8, zQ4_8, zQ5_8, zQ6_8, zQ7_8⟩ := cells8 HQ8.out)
            go_upto_region 13 with (go_at_call 12; (with_reducible refine (hput2 _ AG (Kd.R_reads' HRG8.out).2.2 cG).mono ?_); rintro e_ w9 ⟨AH, cH, rfl, hR, hb⟩; have HB9 := Aside0.mk (below_alloc (below_step HB8.out hb) (.cells #[.slice AH g.length cH] 24)); have HF9 := Aside0.mk (blk_alloc (blk_below HF8.out hb) (.cells #[.slice AH g.length cH] 24)); have HN9 := Aside0.mk (blk_alloc (blk_below HN8.out hb) (.cells #[.slice AH g.length cH] 24)); have HG9 := Aside0.mk (blk_alloc (blk_below HG8.out hb) (.cells #[.slice AH g.length cH] 24)); have HM9 := Aside0.mk (blk_alloc (blk_below HM8.out hb) (.cells #[.slice AH g.length cH] 24)); have HP9 := Aside0.mk (blk_alloc (blk_below HP8.out hb) (.cells #[.slice AH g.length cH] 24)); have HQ9 := Aside0.mk (blk_alloc (blk_below HQ8.out hb) (.cells #[.slice AH g.length cH] 24)); have HRG9 := Aside0.mk (Kd.R_alloc (Kd.R_below HRG8.out hb) (.cells #[.slice AH g.length cH] 24)); have HRH9 := Aside0.mk (Kd.R_alloc hR.out (.cells #[.slice AH g.length cH] 24)); have HH9 := Aside0.mk (heap_alloc_new w9 (.cells #[.slice AH g.length cH] 24)); clear hb hR; have zF9 := (blk_cell HF9.out 0).trans (show _ = some (Value.slice A l.length c) from rfl); obtain ⟨zN0_9, zN1_9, zN2_9, zN3_9, zN4_9, zN5_9, zN6_9, zN7_9⟩ := cells8 HN9.out; have zG9 := (blk_cell HG9.out 0).trans (show _ = some (Value.slice AG g.length cG) from rfl); obtain ⟨zM0_9, zM1_9, zM2_9, zM3_9, zM4_9, zM5_9, zM6_9, zM7_9⟩ := cells8 HM9.out; obtain ⟨zP0_9, zP1_9, zP2_9, zP3_9, zP4_9, zP5_9, zP6_9, zP7_9⟩ := cells8 HP9.out; obtain ⟨zQ0_9, zQ1_9, zQ2_9, zQ3_9, zQ4_9, zQ5_9, zQ6_9, zQ7_9⟩ := cells8 HQ9.out; have zH9 := (blk_cell HH9.out 0).trans (show _ = some (Value.slice AH g.length cH) from rfl))
            go_wp2_with (go_at_call 22; (with_reducible refine (hmay2 _ AG (Kd.R_reads' HRG9.out).2.2 cG).mono ?_); rintro e_ w10 ⟨rfl, hb⟩; have HB10 := Aside0.mk (below_step HB9.out hb); have HF10 := Aside0.mk (blk_below HF9.out hb); have HN10 := Aside0.mk (blk_below HN9.out hb); have HG10 := Aside0.mk (blk_below HG9.out hb); have HM10 := Aside0.mk (blk_below HM9.out hb); have HP10 := Aside0.mk (blk_below HP9.out hb); have HQ10 := Aside0.mk (blk_below HQ9.out hb); have HH10 := Aside0.mk (blk_below HH9.out hb); have HRG10 := Aside0.mk (Kd.R_below HRG9.out hb); have HRH10 := Aside0.mk (Kd.R_below HRH9.out hb); clear hb; have zF10 := (blk_cell HF10.out 0).trans (show _ = some (Value.slice A l.length c) from rfl); obtain ⟨zN0_10, zN1_10, zN2_10, zN3_10, zN4_10, zN5_10, zN6_10, zN7_10⟩ := cells8 HN10.out; have zG10 := (blk_cell HG10.out 0).trans (show _ = some (Value.slice AG g.length cG) from rfl); obtain ⟨zM0_10, zM1_10, zM2_10, zM3_10, zM4_10, zM5_10, zM6_10, zM7_10⟩ := cells8 HM10.out; obtain ⟨zP0_10, zP1_10, zP2_10, zP3_10, zP4_10, zP5_10, zP6_10, zP7_10⟩ := cells8 HP10.out; obtain ⟨zQ0_10, zQ1_10, zQ2_10, zQ3_10, zQ4_10, zQ5_10, zQ6_10, zQ7_10⟩ := cells8 HQ10.out; have zH10 := (blk_cell HH10.out 0).trans (show _ = some (Value.slice AH g.length cH) from rfl))
            go_ret
            exact ⟨rfl, HB10.out⟩
        · have b1 : ((fsPut l n).2 != 0) = true := by simp only [bne, beq_eq_false_iff_ne.2 he]; rfl
          have hg := put_no he
          have hsame := fun W A B c d hA hc hB hd => fs_Same.self l hl W A B c d hA hc hB hd
          simp only [hg] at hput
          generalize (fsPut l n).2 = e at *
          clear hf hok hm hn he hg hget2
          have HB0 := Aside0.mk (Below.refl w.heap.size w)
          have HB0 := Aside0.mk (below_alloc HB0.out (.cells #[.slice A l.length c] 24))
          have HF0 := heap_alloc_new w (.cells #[.slice A l.length c] 24)
          have HF0 := Aside0.mk HF0
          have HB0 := Aside0.mk (below_alloc HB0.out (.cells #[.string n.f0, .string n.f1, .int .u8 n.f2, .int .i64 n.f3, .int .i64 n.f4, .int .i64 n.f5, .int .i64 n.f6, .string n.f7] 26))
          have HF0 := Aside0.mk (blk_alloc HF0.out (.cells #[.string n.f0, .string n.f1, .int .u8 n.f2, .int .i64 n.f3, .int .i64 n.f4, .int .i64 n.f5, .int .i64 n.f6, .string n.f7] 26))
          have HN0 := heap_alloc_new (w.alloc (.cells #[.slice A l.length c] 24)) (.cells #[.string n.f0, .string n.f1, .int .u8 n.f2, .int .i64 n.f3, .int .i64 n.f4, .int .i64 n.f5, .int .i64 n.f6, .string n.f7] 26)
          rw [show (w.alloc (.cells #[.slice A l.length c] 24)).heap.size = w.heap.size + 1 by simp] at HN0
          have HN0 := Aside0.mk HN0
          have zF0 := (blk_cell HF0.out 0).trans (show _ = some (Value.slice A l.length c) from rfl)
          obtain ⟨zN0_0, zN1_0, zN2_0, zN3_0, zN4_0, zN5_0, zN6_0, zN7_0⟩ := cells8 HN0.out
          go_enter Try.func4, Try.ntmps4
          go_upto_region 2 with (go_at_call 9; (with_reducible refine (hup _).mono ?_); rintro e_ w1 ⟨rfl, hb⟩; have HB1 := Aside0.mk (below_step HB0.out hb); have HF1 := Aside0.mk (blk_below HF0.out hb); have HN1 := Aside0.mk (blk_below HN0.out hb); clear hb; have zF1 := (blk_cell HF1.out 0).trans (show _ = some (Value.slice A l.length c) from rfl); obtain ⟨zN0_1, zN1_1, zN2_1, zN3_1, zN4_1, zN5_1, zN6_1, zN7_1⟩ := cells8 HN1.out)
          go_upto_region 3 with (go_at_call 10; (with_reducible refine (hfew _ (Kd.C_below HC.out HB1.out)).mono ?_); rintro e_ w2 ⟨rfl, hb⟩; have HB2 := Aside0.mk (below_step HB1.out hb); have HF2 := Aside0.mk (blk_below HF1.out hb); have HN2 := Aside0.mk (blk_below HN1.out hb); clear hb; have zF2 := (blk_cell HF2.out 0).trans (show _ = some (Value.slice A l.length c) from rfl); obtain ⟨zN0_2, zN1_2, zN2_2, zN3_2, zN4_2, zN5_2, zN6_2, zN7_2⟩ := cells8 HN2.out)
          go_upto_region 4 with (go_at_call 11; (with_reducible refine (hfew5 _).mono ?_); rintro e_ w3 ⟨rfl, hb⟩; have HB3 := Aside0.mk (below_step HB2.out hb); have HF3 := Aside0.mk (blk_below HF2.out hb); have HN3 := Aside0.mk (blk_below HN2.out hb); clear hb; have zF3 := (blk_cell HF3.out 0).trans (show _ = some (Value.slice A l.length c) from rfl); obtain ⟨zN0_3, zN1_3, zN2_3, zN3_3, zN4_3, zN5_3, zN6_3, zN7_3⟩ := cells8 HN3.out)
          go_upto_region 6 with (go_at_call 22; (with_reducible refine (hmay _ (Kd.C_below HC.out HB3.out)).mono ?_); rintro e_ w4 ⟨rfl, hb⟩; have HB4 := Aside0.mk (below_step HB3.out hb); have HF4 := Aside0.mk (blk_below HF3.out hb); have HN4 := Aside0.mk (blk_below HN3.out hb); clear hb; have zF4 := (blk_cell HF4.out 0).trans (show _ = some (Value.slice A l.length c) from rfl); obtain ⟨zN0_4, zN1_4, zN2_4, zN3_4, zN4_4, zN5_4, zN6_4, zN7_4⟩ := cells8 HN4.out)
          go_upto_region 7 with (go_at_call 12; (with_reducible refine (hput _ (Kd.C_below HC.out HB4.out)).mono ?_); rintro e_ w5 ⟨AG, cG, rfl, hR, hb⟩; have HB5 := Aside0.mk (below_alloc (below_step HB4.out hb) (.cells #[.slice AG l.length cG] 24)); have HF5 := Aside0.mk (blk_alloc (blk_below HF4.out hb) (.cells #[.slice AG l.length cG] 24)); have HN5 := Aside0.mk (blk_alloc (blk_below HN4.out hb) (.cells #[.slice AG l.length cG] 24)); have HRG5 := Aside0.mk (Kd.R_alloc hR.out (.cells #[.slice AG l.length cG] 24)); have HG5 := Aside0.mk (heap_alloc_new w5 (.cells #[.slice AG l.length cG] 24)); clear hb hR; have zF5 := (blk_cell HF5.out 0).trans (show _ = some (Value.slice A l.length c) from rfl); obtain ⟨zN0_5, zN1_5, zN2_5, zN3_5, zN4_5, zN5_5, zN6_5, zN7_5⟩ := cells8 HN5.out; have zG5 := (blk_cell HG5.out 0).trans (show _ = some (Value.slice AG l.length cG) from rfl))
          go_wp2_with (go_at_call 23; (with_reducible refine (hsame _ AG A cG c (Kd.R_reads' HRG5.out).2.2 (Kd.R_reads' HRG5.out).2.1 (Kd.C_below HC.out HB5.out) hc).mono ?_); rintro e_ w6 ⟨rfl, hb⟩; have HB6 := Aside0.mk (below_step HB5.out hb); have HF6 := Aside0.mk (blk_below HF5.out hb); have HN6 := Aside0.mk (blk_below HN5.out hb); have HG6 := Aside0.mk (blk_below HG5.out hb); have HRG6 := Aside0.mk (Kd.R_below HRG5.out hb); clear hb; have zF6 := (blk_cell HF6.out 0).trans (show _ = some (Value.slice A l.length c) from rfl); obtain ⟨zN0_6, zN1_6, zN2_6, zN3_6, zN4_6, zN5_6, zN6_6, zN7_6⟩ := cells8 HN6.out; have zG6 := (blk_cell HG6.out 0).trans (show _ = some (Value.slice AG l.length cG) from rfl))
          go_ret
          exact ⟨rfl, HB6.out⟩
theorem reelkeeperlaw19_FsPuts.calls (k : Nat) (A : Option Addr) (c : Nat) (l : List Nd) (n0 n1 : ByteArray) (n2 n3 n4 n5 n6 : Int) (n7 : ByteArray) (p : ByteArray) (r : Bool) (w : World) (hC : Kd.C kNd w A l.length l) (hc : l.length ≤ c) (h : reelkeeperlaw19_FsPuts.f k l n0 n1 n2 n3 n4 n5 n6 n7 p = some r) :
    Calls Try.prog 4 #[.agg #[.slice A l.length c], .agg #[.string n0, .string n1, .int .u8 n2, .int .i64 n3, .int .i64 n4, .int .i64 n5, .int .i64 n6, .string n7], .string p] w fun e w' => e = .returned (.bool r) ∧ Below w.heap.size w w' := by
  obtain rfl : true = r := Option.some.inj h
  exact fs_puts.at_ A c l ⟨n0, n1, n2, n3, n4, n5, n6, n7⟩ p w hC hc

end Go.Proofs.Ytklbnfpjjcidiaa.X
