import Derived.Test.YtlecnodlnkanaaaXK
import Derived.Test.YtlecnodlnkanaaaXGblock
import Derived.Test.YtlecnodlnkanaaaXGhead
import Derived.Test.YtlecnodlnkanaaaXGheadGet
import Derived.Test.YtlecnodlnkanaaaXGlong
import Derived.Test.YtlecnodlnkanaaaXGslices
import Derived.Test.YtlecnodlnkanaaaXGtext
import Derived.Test.YtlecnodlnkanaaaXreelkeeperlaw05awake
import Derived.Test.YtlecnodlnkanaaaP04f
import Derived.Test.YtlecnodlnkanaaaP04g
import Derived.Test.YtlecnodlnkanaaaPGA
import Derived.Test.YtlecnodlnkanaaaPGE
import Derived.Laws.EntriesVeiled
import Derived.WalkSpells
namespace Go.Proofs.Ytlecnodlnkanaaa.X
open Go.RowKit Go.Proofs.YtlecnodlnkanaaaW.PrintWords Go.Proofs.YtlecnodlnkanaaaW.PrintLast Go.Proofs.YtlecnodlnkanaaaW.PrintMore
attribute [local go_sem] max2_int min2_int max_two min_two
set_option linter.unusedVariables false
set_option linter.unusedSimpArgs false

open Go.Proofs.YtlecnodlnkanaaaY
def reelkeeperlaw05_LongBack.f (k : Nat) (a0 : Int) (a1 : ByteArray) : Option Bool := some true
theorem LongBack_told (a0 : Int) (a1 : ByteArray) : ∃ k, reelkeeperlaw05_LongBack.f k a0 a1 = some true := ⟨0, rfl⟩
set_option maxHeartbeats 1600000 in
set_option maxRecDepth 100000 in
theorem LongBack_walk (a0 : Int) (a1 : ByteArray) (w : World) (lx : List (List Int)) (x : List Int) (ry : List (List Int)) (N0 : ByteArray) (hs : a1.size ≤ 400) (hk : a0 = 75 ∨ a0 = 76) (hlen : lx.length = 2) (hr0 : rdR lx 0 = x) (hr1 : lx.drop 1 = ry)
    (hput : ∀ W, Calls Try.prog 34 #[.int .u8 a0, .string a1] W fun e w' => ∃ A c, e = .returned (.tuple #[.slice A lx.length c, .bool true]) ∧ Aside0 (Kd.C kRow w' A lx.length lx) ∧ Aside0 (lx.length ≤ c) ∧ Below W.heap.size W w')
    (hget : ∀ W A c, Kd.C (Kd.int .u8) W A x.length x → x.length ≤ c → Calls Try.prog 36 #[.slice A x.length c] W fun e w' => e = .returned (.tuple #[.agg #[.string N0, .string ⟨#[]⟩, .string ⟨#[]⟩, .int .i64 0, .int .i64 0, .int .i64 0, .int .i64 ((a1.size : Int) + 1), .int .i64 0, .int .u8 a0, .int .i64 0, .int .i64 0], .int .i64 0]) ∧ Below W.heap.size W w')
    (htext : ∀ W A c, Kd.C kRow W A ry.length ry → ry.length ≤ c → Calls Try.prog 37 #[.slice A ry.length c, .int .i64 ((a1.size : Int) + 1)] W fun e w' => e = .returned (.tuple #[.string (a1 ++ ⟨#[0]⟩), .bool true]) ∧ Below W.heap.size W w')
    (hmay : ∀ W A c, Kd.C kRow W A lx.length lx → lx.length ≤ c → Calls Try.prog 38 #[.slice A lx.length c] W fun e w' => e = .returned (.bool true) ∧ Drawn0 W w')
    (hlt : ∀ W, Calls Try.prog 35 #[.string a1] W fun e w' => e = .returned (.bool true) ∧ Drawn0 W w') :
    Calls Try.prog 7 #[.int .u8 a0, .string a1] w fun e w' => e = .returned (.bool true) ∧ Below w.heap.size w w' := by
  have hup := fun W => awake5.at_ W
  have HLEN := Aside0.mk hlen
  have HR0 := Aside0.mk hr0
  have HR1 := Aside0.mk hr1
  have hp0 : (0 : Int) < (lx.length : Int) := by omega
  have hp1 : decide ((lx.length : Int) < 2) = false := decide_eq_false (by omega)
  have hp2 : ((lx.length : Int) == 2) = true := beq_iff_eq.2 (by omega)
  have hs' : decide ((400 : Int) < (a1.size : Int)) = false := decide_eq_false (by omega)
  have hS3 : IntKind.i64.wrap ((a1.size : Int) + 1) = (a1.size : Int) + 1 := by rw [i64_w]; unfold wrap64; omega
  have hsz : a1.size + (⟨#[0]⟩ : ByteArray).size ≤ 9223372036854775807 := by show a1.size + 1 ≤ _; omega
  have HB0 := Aside0.mk (Below.refl w.heap.size w)
  clear hlen hr0 hr1 hs
  rcases hk with rfl | rfl
  · go_enter Try.func7, Try.ntmps7
    go_wp2_with (first | (go_at_call 33; refine (hup _).mono ?_; rintro e w1 ⟨rfl, hb⟩; have HB1 := Aside0.mk (below_step (by repeat (first | exact HB0.out | apply below_alloc | apply pw_below_drewN | apply below_drew1)) hb); clear hb) | (go_at_call 34; refine (hput _).mono ?_; rintro e w2 ⟨A2, c2, rfl, HCx, HLx, hb⟩; have HB2 := Aside0.mk (below_step (by repeat (first | exact HB1.out | apply below_alloc | apply pw_below_drewN | apply below_drew1)) hb); obtain ⟨adx, B0, d0, rfl, hx0, hl0, hC0⟩ := at_row HCx.out 0 (by have := HLEN.out; omega); have hx0' : w2.cell? adx = _ := (by simpa [Addr.add] using hx0); rw [HR0.out] at hx0' hl0 hC0; have HC0 := Aside0.mk hC0; have HL0 := Aside0.mk hl0; obtain ⟨A3, c3, hcut, hK, hc3⟩ := rows_drop c2 HCx.out HLx.out 1 (by have := HLEN.out; omega); rw [HR1.out] at hcut hK hc3; have hcut' : ∀ W, (Instr.slice 30 (.slice (some adx) lx.length c2) (some (.int .i64 1)) none none).run Try.prog W = .ok (.slice A3 ry.length c3) W := hcut; have HK := Aside0.mk hK; have HC3 := Aside0.mk hc3; clear hC0 hl0 hx0 hcut hK hc3; clear hb) | (go_at_call 36; refine (hget _ _ _ HC0.out HL0.out).mono ?_; rintro e w3 ⟨rfl, hb⟩; have HB3 := Aside0.mk (below_alloc (below_step HB2.out hb) (.cells #[.string N0, .string ⟨#[]⟩, .string ⟨#[]⟩, .int .i64 0, .int .i64 0, .int .i64 0, .int .i64 ((a1.size : Int) + 1), .int .i64 0, .int .u8 75, .int .i64 0, .int .i64 0] 27)); have HXh_3 := Aside0.mk (heap_alloc_new w3 (.cells #[.string N0, .string ⟨#[]⟩, .string ⟨#[]⟩, .int .i64 0, .int .i64 0, .int .i64 0, .int .i64 ((a1.size : Int) + 1), .int .i64 0, .int .u8 75, .int .i64 0, .int .i64 0] 27)); have HCx_3 := Aside0.mk (Kd.C_alloc (Kd.C_below HCx.out hb) (.cells #[.string N0, .string ⟨#[]⟩, .string ⟨#[]⟩, .int .i64 0, .int .i64 0, .int .i64 0, .int .i64 ((a1.size : Int) + 1), .int .i64 0, .int .u8 75, .int .i64 0, .int .i64 0] 27)); have HK_3 := Aside0.mk (Kd.C_alloc (Kd.C_below HK.out hb) (.cells #[.string N0, .string ⟨#[]⟩, .string ⟨#[]⟩, .int .i64 0, .int .i64 0, .int .i64 0, .int .i64 ((a1.size : Int) + 1), .int .i64 0, .int .u8 75, .int .i64 0, .int .i64 0] 27)); clear hb; have zh0_3 := (blk_cell HXh_3.out 0).trans (show _ = some (Value.string N0) from rfl); have zh1_3 := (blk_cell HXh_3.out 1).trans (show _ = some (Value.string ⟨#[]⟩) from rfl); have zh2_3 := (blk_cell HXh_3.out 2).trans (show _ = some (Value.string ⟨#[]⟩) from rfl); have zh3_3 := (blk_cell HXh_3.out 3).trans (show _ = some (Value.int .i64 0) from rfl); have zh4_3 := (blk_cell HXh_3.out 4).trans (show _ = some (Value.int .i64 0) from rfl); have zh5_3 := (blk_cell HXh_3.out 5).trans (show _ = some (Value.int .i64 0) from rfl); have zh6_3 := (blk_cell HXh_3.out 6).trans (show _ = some (Value.int .i64 ((a1.size : Int) + 1)) from rfl); have zh7_3 := (blk_cell HXh_3.out 7).trans (show _ = some (Value.int .i64 0) from rfl); have zh8_3 := (blk_cell HXh_3.out 8).trans (show _ = some (Value.int .u8 75) from rfl); have zh9_3 := (blk_cell HXh_3.out 9).trans (show _ = some (Value.int .i64 0) from rfl); have zh10_3 := (blk_cell HXh_3.out 10).trans (show _ = some (Value.int .i64 0) from rfl)) | (go_at_call 37; refine (htext _ _ _ HK_3.out HC3.out).mono ?_; rintro e w4 ⟨rfl, hb⟩; have HB4 := Aside0.mk (below_step HB3.out hb); have HXh_4 := Aside0.mk (blk_below HXh_3.out hb); have HCx_4 := Aside0.mk (Kd.C_below HCx_3.out hb); clear hb; have zh0_4 := (blk_cell HXh_4.out 0).trans (show _ = some (Value.string N0) from rfl); have zh1_4 := (blk_cell HXh_4.out 1).trans (show _ = some (Value.string ⟨#[]⟩) from rfl); have zh2_4 := (blk_cell HXh_4.out 2).trans (show _ = some (Value.string ⟨#[]⟩) from rfl); have zh3_4 := (blk_cell HXh_4.out 3).trans (show _ = some (Value.int .i64 0) from rfl); have zh4_4 := (blk_cell HXh_4.out 4).trans (show _ = some (Value.int .i64 0) from rfl); have zh5_4 := (blk_cell HXh_4.out 5).trans (show _ = some (Value.int .i64 0) from rfl); have zh6_4 := (blk_cell HXh_4.out 6).trans (show _ = some (Value.int .i64 ((a1.size : Int) + 1)) from rfl); have zh7_4 := (blk_cell HXh_4.out 7).trans (show _ = some (Value.int .i64 0) from rfl); have zh8_4 := (blk_cell HXh_4.out 8).trans (show _ = some (Value.int .u8 75) from rfl); have zh9_4 := (blk_cell HXh_4.out 9).trans (show _ = some (Value.int .i64 0) from rfl); have zh10_4 := (blk_cell HXh_4.out 10).trans (show _ = some (Value.int .i64 0) from rfl)) | (go_at_call 38; refine (hmay _ _ _ HCx_4.out HLx.out).mono ?_; rintro e w5 ⟨rfl, ⟨nd5, rfl⟩⟩) | (go_at_call 35; refine (hlt _).mono ?_; rintro e w6 ⟨rfl, ⟨nd6, rfl⟩⟩))
    go_ret
    exact ⟨by simp, by repeat (first | exact HB4.out | apply pw_below_drewN)⟩
  · go_enter Try.func7, Try.ntmps7
    go_wp2_with (first | (go_at_call 33; refine (hup _).mono ?_; rintro e w1 ⟨rfl, hb⟩; have HB1 := Aside0.mk (below_step (by repeat (first | exact HB0.out | apply below_alloc | apply pw_below_drewN | apply below_drew1)) hb); clear hb) | (go_at_call 34; refine (hput _).mono ?_; rintro e w2 ⟨A2, c2, rfl, HCx, HLx, hb⟩; have HB2 := Aside0.mk (below_step (by repeat (first | exact HB1.out | apply below_alloc | apply pw_below_drewN | apply below_drew1)) hb); obtain ⟨adx, B0, d0, rfl, hx0, hl0, hC0⟩ := at_row HCx.out 0 (by have := HLEN.out; omega); have hx0' : w2.cell? adx = _ := (by simpa [Addr.add] using hx0); rw [HR0.out] at hx0' hl0 hC0; have HC0 := Aside0.mk hC0; have HL0 := Aside0.mk hl0; obtain ⟨A3, c3, hcut, hK, hc3⟩ := rows_drop c2 HCx.out HLx.out 1 (by have := HLEN.out; omega); rw [HR1.out] at hcut hK hc3; have hcut' : ∀ W, (Instr.slice 30 (.slice (some adx) lx.length c2) (some (.int .i64 1)) none none).run Try.prog W = .ok (.slice A3 ry.length c3) W := hcut; have HK := Aside0.mk hK; have HC3 := Aside0.mk hc3; clear hC0 hl0 hx0 hcut hK hc3; clear hb) | (go_at_call 36; refine (hget _ _ _ HC0.out HL0.out).mono ?_; rintro e w3 ⟨rfl, hb⟩; have HB3 := Aside0.mk (below_alloc (below_step HB2.out hb) (.cells #[.string N0, .string ⟨#[]⟩, .string ⟨#[]⟩, .int .i64 0, .int .i64 0, .int .i64 0, .int .i64 ((a1.size : Int) + 1), .int .i64 0, .int .u8 76, .int .i64 0, .int .i64 0] 27)); have HXh_3 := Aside0.mk (heap_alloc_new w3 (.cells #[.string N0, .string ⟨#[]⟩, .string ⟨#[]⟩, .int .i64 0, .int .i64 0, .int .i64 0, .int .i64 ((a1.size : Int) + 1), .int .i64 0, .int .u8 76, .int .i64 0, .int .i64 0] 27)); have HCx_3 := Aside0.mk (Kd.C_alloc (Kd.C_below HCx.out hb) (.cells #[.string N0, .string ⟨#[]⟩, .string ⟨#[]⟩, .int .i64 0, .int .i64 0, .int .i64 0, .int .i64 ((a1.size : Int) + 1), .int .i64 0, .int .u8 76, .int .i64 0, .int .i64 0] 27)); have HK_3 := Aside0.mk (Kd.C_alloc (Kd.C_below HK.out hb) (.cells #[.string N0, .string ⟨#[]⟩, .string ⟨#[]⟩, .int .i64 0, .int .i64 0, .int .i64 0, .int .i64 ((a1.size : Int) + 1), .int .i64 0, .int .u8 76, .int .i64 0, .int .i64 0] 27)); clear hb; have zh0_3 := (blk_cell HXh_3.out 0).trans (show _ = some (Value.string N0) from rfl); have zh1_3 := (blk_cell HXh_3.out 1).trans (show _ = some (Value.string ⟨#[]⟩) from rfl); have zh2_3 := (blk_cell HXh_3.out 2).trans (show _ = some (Value.string ⟨#[]⟩) from rfl); have zh3_3 := (blk_cell HXh_3.out 3).trans (show _ = some (Value.int .i64 0) from rfl); have zh4_3 := (blk_cell HXh_3.out 4).trans (show _ = some (Value.int .i64 0) from rfl); have zh5_3 := (blk_cell HXh_3.out 5).trans (show _ = some (Value.int .i64 0) from rfl); have zh6_3 := (blk_cell HXh_3.out 6).trans (show _ = some (Value.int .i64 ((a1.size : Int) + 1)) from rfl); have zh7_3 := (blk_cell HXh_3.out 7).trans (show _ = some (Value.int .i64 0) from rfl); have zh8_3 := (blk_cell HXh_3.out 8).trans (show _ = some (Value.int .u8 76) from rfl); have zh9_3 := (blk_cell HXh_3.out 9).trans (show _ = some (Value.int .i64 0) from rfl); have zh10_3 := (blk_cell HXh_3.out 10).trans (show _ = some (Value.int .i64 0) from rfl)) | (go_at_call 37; refine (htext _ _ _ HK_3.out HC3.out).mono ?_; rintro e w4 ⟨rfl, hb⟩; have HB4 := Aside0.mk (below_step HB3.out hb); have HXh_4 := Aside0.mk (blk_below HXh_3.out hb); have HCx_4 := Aside0.mk (Kd.C_below HCx_3.out hb); clear hb; have zh0_4 := (blk_cell HXh_4.out 0).trans (show _ = some (Value.string N0) from rfl); have zh1_4 := (blk_cell HXh_4.out 1).trans (show _ = some (Value.string ⟨#[]⟩) from rfl); have zh2_4 := (blk_cell HXh_4.out 2).trans (show _ = some (Value.string ⟨#[]⟩) from rfl); have zh3_4 := (blk_cell HXh_4.out 3).trans (show _ = some (Value.int .i64 0) from rfl); have zh4_4 := (blk_cell HXh_4.out 4).trans (show _ = some (Value.int .i64 0) from rfl); have zh5_4 := (blk_cell HXh_4.out 5).trans (show _ = some (Value.int .i64 0) from rfl); have zh6_4 := (blk_cell HXh_4.out 6).trans (show _ = some (Value.int .i64 ((a1.size : Int) + 1)) from rfl); have zh7_4 := (blk_cell HXh_4.out 7).trans (show _ = some (Value.int .i64 0) from rfl); have zh8_4 := (blk_cell HXh_4.out 8).trans (show _ = some (Value.int .u8 76) from rfl); have zh9_4 := (blk_cell HXh_4.out 9).trans (show _ = some (Value.int .i64 0) from rfl); have zh10_4 := (blk_cell HXh_4.out 10).trans (show _ = some (Value.int .i64 0) from rfl)) | (go_at_call 38; refine (hmay _ _ _ HCx_4.out HLx.out).mono ?_; rintro e w5 ⟨rfl, ⟨nd5, rfl⟩⟩) | (go_at_call 35; refine (hlt _).mono ?_; rintro e w6 ⟨rfl, ⟨nd6, rfl⟩⟩))
    go_ret
    exact ⟨by simp, by repeat (first | exact HB4.out | apply pw_below_drewN)⟩
set_option maxHeartbeats 1600000 in
set_option maxRecDepth 100000 in
theorem reelkeeperlaw05_LongBack.calls (k : Nat) (a0 : Int) (a1 : ByteArray) (r : Bool) (w : World) (hwf : 0 ≤ a0 ∧ a0 ≤ 255) (h : reelkeeperlaw05_LongBack.f k a0 a1 = some r) :
    Calls Try.prog 7 #[.int .u8 a0, .string a1] w fun e w' => e = .returned (.bool r) ∧ Below w.heap.size w w' := by
  obtain rfl : true = r := Option.some.inj h
  clear h
  have hup := fun W => awake5.at_ W
  by_cases hs : 400 < a1.size
  · have hs2 : (400 : Int) < (a1.size : Int) := by omega
    have HB0 := Aside0.mk (Below.refl w.heap.size w)
    clear hwf hs
    go_enter Try.func7, Try.ntmps7
    go_wp2_with (first | (go_at_call 33; refine (hup _).mono ?_; rintro e w1 ⟨rfl, hb⟩; have HB1 := Aside0.mk (below_step (by repeat (first | exact HB0.out | apply below_alloc | apply pw_below_drewN | apply below_drew1)) hb); clear hb))
    go_ret
    exact ⟨rfl, HB1.out⟩
  have hp := longPut_f hwf (s := a1) (by omega)
  have hte := long_text a1
  have hlt := fun W => long_Text.calls a1 _ W hte
  cases hq : (longB a0 a1).2 with
  | true =>
    obtain ⟨hk, htx, hl⟩ := longB_yes hq
    rw [hl] at hp
    rw [htx] at hlt
    have hz := textB_size htx
    have hx : byteOk (hdBlk (longHd a0 a1)) := byteOk_hdBlk (by show 0 ≤ a0 ∧ a0 ≤ 255; exact hwf)
    have hrow : longL a0 a1 = hdBlk (longHd a0 a1) :: cutL (a1 ++ ⟨#[0]⟩) := by unfold longL; rw [longHead hk (by omega)]
    have htc := textL_cut (a1 ++ ⟨#[0]⟩)
    have hsz1 : (a1 ++ (⟨#[0]⟩ : ByteArray)).size = a1.size + 1 := by rw [ByteArray.size_append]; rfl
    have hcl : (cutL (a1 ++ ⟨#[0]⟩)).length ≤ 1000 := by rw [cutL_length, hsz1]; unfold manyB; omega
    rw [hsz1] at htc
    refine LongBack_walk a0 a1 w (longL a0 a1) (hdBlk (longHd a0 a1)) (cutL (a1 ++ ⟨#[0]⟩)) (longHd a0 a1).f0 (by omega) hk (longL_two hz.2) (by rw [hrow]; rfl) (by rw [hrow]; rfl) (fun W => rows_flag (long_Put.calls a0 a1 _ _ W hp)) (fun W A c hC hc => ?_) (fun W A c hC hc => ?_) (fun W A c hC hc => block_May.calls A c _ true W hC hc ?_) hlt
    · have h7 := head_Get.at_ A c _ W hC hc hx
      rw [headGet_long hk (by omega)] at h7
      exact h7
    · have h7 := block_Text.at_ A c _ (a1.size + 1) W hC hc hcl (by omega)
      rw [htc] at h7
      exact h7
    · unfold block_May.f
      rw [blocksOk_of (longL_512 hk (by omega))]
  | false =>
    have hno : longOk a0 (textB a1) = false ∧ longB a0 a1 = ([], false) := by
      unfold longB at hq ⊢
      cases c : longOk a0 (textB a1) with
      | true => rw [c, if_pos rfl] at hq; cases hq
      | false => exact ⟨rfl, if_neg (by decide)⟩
    rw [hno.2] at hp
    have ho := hno.1
    have hput := fun W => rows_flag (long_Put.calls a0 a1 [] false W hp)
    have HB0 := Aside0.mk (Below.refl w.heap.size w)
    have hs' : decide ((400 : Int) < (a1.size : Int)) = false := decide_eq_false (by omega)
    generalize textB a1 = tx at hlt ho
    unfold longOk at ho
    clear hp hq hno hte hwf hs
    by_cases k1 : a0 = 75
    · subst k1
      obtain rfl : tx = false := by simpa using ho
      clear ho
      go_enter Try.func7, Try.ntmps7
      go_wp2_with (first | (go_at_call 33; refine (hup _).mono ?_; rintro e w1 ⟨rfl, hb⟩; have HB1 := Aside0.mk (below_step (by repeat (first | exact HB0.out | apply below_alloc | apply pw_below_drewN | apply below_drew1)) hb); clear hb) | (go_at_call 34; refine (hput _).mono ?_; rintro e w2 ⟨A2, c2, rfl, HCx, HLx, hb⟩; have HB2 := Aside0.mk (below_step (by repeat (first | exact HB1.out | apply below_alloc | apply pw_below_drewN | apply below_drew1)) hb); clear hb) | (go_at_call 35; refine (hlt _).mono ?_; rintro e w6 ⟨rfl, ⟨nd6, rfl⟩⟩))
      go_ret
      exact ⟨rfl, by repeat (first | exact HB2.out | apply pw_below_drewN)⟩
    by_cases k2 : a0 = 76
    · subst k2
      obtain rfl : tx = false := by simpa using ho
      clear ho k1
      go_enter Try.func7, Try.ntmps7
      go_wp2_with (first | (go_at_call 33; refine (hup _).mono ?_; rintro e w1 ⟨rfl, hb⟩; have HB1 := Aside0.mk (below_step (by repeat (first | exact HB0.out | apply below_alloc | apply pw_below_drewN | apply below_drew1)) hb); clear hb) | (go_at_call 34; refine (hput _).mono ?_; rintro e w2 ⟨A2, c2, rfl, HCx, HLx, hb⟩; have HB2 := Aside0.mk (below_step (by repeat (first | exact HB1.out | apply below_alloc | apply pw_below_drewN | apply below_drew1)) hb); clear hb) | (go_at_call 35; refine (hlt _).mono ?_; rintro e w6 ⟨rfl, ⟨nd6, rfl⟩⟩))
      go_ret
      exact ⟨rfl, by repeat (first | exact HB2.out | apply pw_below_drewN)⟩
    · have q1 : (a0 == 75) = false := beq_eq_false_iff_ne.2 k1
      have q2 : (a0 == 76) = false := beq_eq_false_iff_ne.2 k2
      have q3 := ne_of_beq q1
      have q4 := ne_of_beq q2
      clear ho k1 k2
      go_enter Try.func7, Try.ntmps7
      go_wp2_with (first | (go_at_call 33; refine (hup _).mono ?_; rintro e w1 ⟨rfl, hb⟩; have HB1 := Aside0.mk (below_step (by repeat (first | exact HB0.out | apply below_alloc | apply pw_below_drewN | apply below_drew1)) hb); clear hb) | (go_at_call 34; refine (hput _).mono ?_; rintro e w2 ⟨A2, c2, rfl, HCx, HLx, hb⟩; have HB2 := Aside0.mk (below_step (by repeat (first | exact HB1.out | apply below_alloc | apply pw_below_drewN | apply below_drew1)) hb); clear hb) | (go_at_call 35; refine (hlt _).mono ?_; rintro e w6 ⟨rfl, ⟨nd6, rfl⟩⟩))
      go_ret
      exact ⟨rfl, by repeat (first | exact HB2.out | apply pw_below_drewN)⟩

end Go.Proofs.Ytlecnodlnkanaaa.X
