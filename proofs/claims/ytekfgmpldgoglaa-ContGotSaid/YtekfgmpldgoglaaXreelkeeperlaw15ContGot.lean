import Derived.Test.YtekfgmpldgoglaaXK
import Derived.Test.YtekfgmpldgoglaaXE23
import Derived.Test.YtekfgmpldgoglaaXGcontgot
import Derived.Test.YtekfgmpldgoglaaXGlaw15
import Derived.Test.YtekfgmpldgoglaaXGreelkeeperref03
import Derived.Test.YtekfgmpldgoglaaXGslices
import Derived.Test.YtekfgmpldgoglaaXreelkeeperlaw03Few
import Derived.Test.YtekfgmpldgoglaaP04f
import Derived.Test.YtekfgmpldgoglaaP04g
import Derived.Test.YtekfgmpldgoglaaP15a
import Derived.Test.YtekfgmpldgoglaaP15b
import Derived.Test.YtekfgmpldgoglaaP15c
import Derived.Test.YtekfgmpldgoglaaP15o
import Derived.Test.YtekfgmpldgoglaaPGA
import Derived.Test.YtekfgmpldgoglaaPGE
import Derived.Deep.RegionHeld3
import Derived.Laws.EntriesVeiled
import Derived.WalkSpells
namespace Go.Proofs.Ytekfgmpldgoglaa.X
open Go.RowKit Go.Proofs.YtekfgmpldgoglaaW.PrintWords Go.Proofs.YtekfgmpldgoglaaW.PrintLast Go.Proofs.YtekfgmpldgoglaaW.PrintMore
attribute [local go_sem] max2_int min2_int max_two min_two
set_option linter.unusedVariables false
set_option linter.unusedSimpArgs false

attribute [local go_sem high] eqA23
open Go.Proofs.YtekfgmpldgoglaaY
set_option maxRecDepth 100000
def reelkeeperlaw15_ContGot.f (k : Nat) (l0 : List (List Int)) : Option Bool := some true
theorem ContGot_told (l : List (List Int)) : ∃ k, reelkeeperlaw15_ContGot.f k l = some true := ⟨0, rfl⟩
set_option maxHeartbeats 3200000 in
theorem reelkeeperlaw15_ContGot.calls (k : Nat) (A0 : Option Addr) (c0 : Nat) (l0 : List (List Int)) (r : Bool) (w : World) (hr0 : Kd.C kRow w A0 l0.length l0) (hc0 : l0.length ≤ c0) (hy0 : ∀ x ∈ l0, ∀ y ∈ x, 0 ≤ y ∧ y ≤ 255) (h : reelkeeperlaw15_ContGot.f k l0 = some r) :
    Calls Try.prog 5 #[.slice A0 l0.length c0] w fun e w' => e = .returned (.bool r) ∧ Below w.heap.size w w' := by
  obtain rfl : true = r := Option.some.inj h
  clear h k
  have hup := fun W => awake15.at_ W
  obtain ⟨b, hev, hb60⟩ := few3_ev l0
  obtain ⟨kf, hkf⟩ := Ev.rounds hev
  have hfew := fun W hC => reelkeeperlaw03_Few.calls kf A0 c0 l0 b W hC hc0 hkf
  have HB0 := Aside0.mk (Below.refl w.heap.size w)
  have HC0 := Aside0.mk hr0
  have hlm : l0.length ≤ 9223372036854775807 := hr0.2.1
  clear hev hkf hr0
  cases b with
  | false =>
    clear hb60
    go_enter Try.func5, Try.ntmps5
    go_wp2_with (first | (go_at_call 10; refine (hup _).mono ?_; rintro e w1 ⟨rfl, hb⟩; have HB1 := Aside0.mk (below_step HB0.out hb); have HC1 := Aside0.mk (Kd.C_below HC0.out hb); clear hb) | (go_at_call 12; refine (hfew _ HC1.out).mono ?_; rintro e w2 ⟨rfl, ⟨⟨nd2, rfl⟩⟩⟩; have HB2 := Aside0.mk (pw_below_drewN HB1.out nd2); have HC2 := Aside0.mk (Kd.C_drewN HC1.out nd2)))
    go_ret
    exact ⟨rfl, HB2.out⟩
  | true =>
  have h60 := hb60 rfl
  clear hb60
  have hget := fun W hC => cont_Get.at_ A0 c0 l0 W hC hc0 hy0 (by omega)
  cases his : (contGet l0).2.2.2.2 with
  | false =>
    rw [contGet_no his] at hget
    simp only [noGet] at hget
    clear his hlm
    go_enter Try.func5, Try.ntmps5
    go_wp2_with (first | (go_at_call 10; refine (hup _).mono ?_; rintro e w1 ⟨rfl, hb⟩; have HB1 := Aside0.mk (below_step HB0.out hb); have HC1 := Aside0.mk (Kd.C_below HC0.out hb); clear hb) | (go_at_call 12; refine (hfew _ HC1.out).mono ?_; rintro e w2 ⟨rfl, ⟨⟨nd2, rfl⟩⟩⟩; have HB2 := Aside0.mk (pw_below_drewN HB1.out nd2); have HC2 := Aside0.mk (Kd.C_drewN HC1.out nd2)) | (go_at_call 15; refine (hget _ HC2.out).mono ?_; rintro e w3 ⟨rfl, hb⟩; have HB3 := Aside0.mk (below_alloc (below_step HB2.out hb) (.cells #[.string ⟨#[]⟩, .string ⟨#[]⟩, .int .u8 0, .int .i64 0, .int .i64 0, .int .i64 0, .int .i64 0, .string ⟨#[]⟩] 23)); have HC3 := Aside0.mk (Kd.C_below HC2.out (below_alloc hb (.cells #[.string ⟨#[]⟩, .string ⟨#[]⟩, .int .u8 0, .int .i64 0, .int .i64 0, .int .i64 0, .int .i64 0, .string ⟨#[]⟩] 23))); have HX3 := Aside0.mk (heap_alloc_new w3 (.cells #[.string ⟨#[]⟩, .string ⟨#[]⟩, .int .u8 0, .int .i64 0, .int .i64 0, .int .i64 0, .int .i64 0, .string ⟨#[]⟩] 23)); have hlt3 := Aside0.mk (below_step HB2.out hb); obtain ⟨z0, z1, z2, z3, z4, z5, z6, z7⟩ := cells8 HX3.out; clear hb))
    go_ret
    exact ⟨by simp, HB3.out⟩
  | true =>
    obtain ⟨res, hres⟩ : ∃ r, contGet l0 = r := ⟨_, rfl⟩
    rw [hres] at his hget
    obtain ⟨⟨q0, q1, q2, q3, q4, q5, q6, q7⟩, off, whole, at_, is⟩ := res
    simp only at his hget
    subst his
    obtain ⟨k, hf, ho, hk, h7, g0, g1, g2, g3, rfl, k1, k2, htk⟩ := contGet_yes hres
    simp only at hk h7
    subst hk h7
    have hl1 : q1 = ⟨#[]⟩ := file_link hf rfl
    subst hl1
    obtain ⟨n, rfl⟩ : ∃ n : Nat, whole = (n : Int) := ⟨whole.toNat, by omega⟩
    obtain ⟨z0d, D, hD, hmk, hcv⟩ := made_text n (by omega)
    have hone : oneB ⟨q0, ⟨#[]⟩, 48, q3, q4, q5, q6, D⟩ = true := by
      have h_ := ho
      unfold oneB oneKind at h_ ⊢
      simp only [if_true] at h_ ⊢
      rw [decide_eq_true (show D.size ≤ 4000 by omega)]
      exact h_
    have hm : contMayB ⟨q0, ⟨#[]⟩, 48, q3, q4, q5, q6, D⟩ off = true := contMayB_iff.2 ⟨⟨rfl, hone⟩, g0, by show off < (D.size : Int); omega, g3⟩
    have hpb : contPutB ⟨q0, ⟨#[]⟩, 48, q3, q4, q5, q6, D⟩ off = l0.take k := by
      unfold contPutB
      rw [if_pos hm, htk]
      show contB _ off (D.size : Int) = _
      rw [hD]
      rfl
    have hz0 : q0.size ≤ 10000 := by have h_ := mayL_pos hf.path; simp only at h_; omega
    have hput := fun W => cont_Put.told ⟨q0, ⟨#[]⟩, 48, q3, q4, q5, q6, D⟩ hz0 (by show (0 : Nat) ≤ _; decide) off W
    rw [hm, hpb] at hput
    simp only at hput
    have htl : (l0.take k).length = k := by rw [List.length_take]; omega
    have hst := fun (W : World) (hC : Kd.C kRow W A0 l0.length l0) => rowsTake c0 hC hc0 k k2
    have e1 : decide ((k : Int) < 1) = false := decide_eq_false (by omega)
    have e2 : decide ((l0.length : Int) < (k : Int)) = false := decide_eq_false (by omega)
    have e2n : decide (l0.length < k) = false := decide_eq_false (by omega)
    have e3 : decide ((n : Int) < 1) = false := decide_eq_false (by omega)
    have e4 : decide (4000 < (n : Int)) = false := decide_eq_false (by omega)
    have e3n : decide (n < 1) = false := decide_eq_false (by omega)
    have e4n : decide (4000 < n) = false := decide_eq_false (by omega)
    have e5 : ((⟨#[]⟩ : ByteArray).toList == ([] : List UInt8)) = true := by rw [nil_size]; exact decide_eq_true rfl
    have hk0 : (0 : Int) ≤ (k : Int) := by omega
    have HKC := Aside0.mk (show k ≤ c0 by omega)
    clear hres htk hD hone hm hpb hz0 hf ho g0 g1 g2 g3 k1 k2
    generalize l0.take k = T at *
    have hput : ∀ W, Calls Try.prog 13 #[.agg #[.string q0, .string ⟨#[]⟩, .int .u8 48, .int .i64 q3, .int .i64 q4, .int .i64 q5, .int .i64 q6, .string D], .int .i64 off] W fun e w' => ∃ A c, e = .returned (.tuple #[.slice A k c, .bool true]) ∧ Aside0 (Kd.C kRow w' A T.length T) ∧ Aside0 (T.length ≤ c) ∧ Below W.heap.size W w' := fun W => (hput W).mono (by
      rintro e w' ⟨A, c, rfl, h1, h2, hB⟩
      exact ⟨A, c, by rw [htl], h1, h2, hB⟩)
    have hsame : ∀ (W : World) (A : Option Addr) (c : Nat), Kd.C kRow W A T.length T → T.length ≤ c → Kd.C kRow W A0 k T → Calls Try.prog 17 #[.slice A k c, .slice A0 k c0] W fun e w' => e = .returned (.bool true) ∧ Drawn0 W w' := fun W A c h1 h2 h3 => by
      have h_ := reelkeeperref03_Same.calls A c T A0 c0 T true W h1 h2 (by rw [htl]; exact h3) (by rw [htl]; exact HKC.out) (congrArg some (sameF_self T))
      rw [htl] at h_
      exact h_
    go_enter Try.func5, Try.ntmps5
    go_upto_region 10 with (first | (go_at_call 10; refine (hup _).mono ?_; rintro e w1 ⟨rfl, hb⟩; have HB1 := Aside0.mk (below_step HB0.out hb); have HC1 := Aside0.mk (Kd.C_below HC0.out hb); clear hb) | (go_at_call 12; refine (hfew _ HC1.out).mono ?_; rintro e w2 ⟨rfl, ⟨⟨nd2, rfl⟩⟩⟩; have HB2 := Aside0.mk (pw_below_drewN HB1.out nd2); have HC2 := Aside0.mk (Kd.C_drewN HC1.out nd2)) | (go_at_call 15; refine (hget _ HC2.out).mono ?_; rintro e w3 ⟨rfl, hb⟩; have HB3 := Aside0.mk (below_alloc (below_step HB2.out hb) (.cells #[.string q0, .string ⟨#[]⟩, .int .u8 48, .int .i64 q3, .int .i64 q4, .int .i64 q5, .int .i64 q6, .string ⟨#[]⟩] 23)); have HC3 := Aside0.mk (Kd.C_below HC2.out (below_alloc hb (.cells #[.string q0, .string ⟨#[]⟩, .int .u8 48, .int .i64 q3, .int .i64 q4, .int .i64 q5, .int .i64 q6, .string ⟨#[]⟩] 23))); have HX3 := Aside0.mk (heap_alloc_new w3 (.cells #[.string q0, .string ⟨#[]⟩, .int .u8 48, .int .i64 q3, .int .i64 q4, .int .i64 q5, .int .i64 q6, .string ⟨#[]⟩] 23)); have hlt3 := Aside0.mk (below_step HB2.out hb); obtain ⟨z0, z1, z2, z3, z4, z5, z6, z7⟩ := cells8 HX3.out; clear hb))
    obtain ⟨W3, hW3⟩ : ∃ W3, w3.alloc (.cells #[.string q0, .string ⟨#[]⟩, .int .u8 48, .int .i64 q3, .int .i64 q4, .int .i64 q5, .int .i64 q6, .string ⟨#[]⟩] 23) = W3 := ⟨_, rfl⟩
    have hlt : w.heap.size ≤ w3.heap.size := hlt3.out.size
    rw [hW3] at HB3 HC3 HX3 ⊢
    clear hW3 z0 z1 z2 z3 z4 z5 z6 z7 hlt3
    generalize w3.heap.size = g at *
    have HB4 := below_alloc HB3.out (.cells (nums .u8 z0d).toArray 5)
    have HX4 := blk_alloc HX3.out (.cells (nums .u8 z0d).toArray 5)
    have y7 := blk_frozen HX4 7
    have x7 := (blk_cell HX4 7).trans (show _ = some (Value.string ⟨#[]⟩) from rfl)
    have HB4 := Aside0.mk HB4
    have HX4 := Aside0.mk HX4
    clear HB3 HC3 HX3
    go_upto_region 11 with (fail)
    obtain ⟨W4, hW4⟩ : ∃ W4, W3.alloc (.cells (nums .u8 z0d).toArray 5) = W4 := ⟨_, rfl⟩
    rw [hW4] at HB4 HX4 y7 x7 ⊢
    clear hW4 y7 x7
    have HB5 := Aside0.mk (HB4.out.setCell (p := ⟨g, 7, none⟩) hlt (.string D))
    have HX5 := blk_put HX4.out 7 (.string D) (cs' := #[.string q0, .string ⟨#[]⟩, .int .u8 48, .int .i64 q3, .int .i64 q4, .int .i64 q5, .int .i64 q6, .string D]) rfl
    obtain ⟨W5, hW5⟩ : ∃ W5, W4.setCell ⟨g, 7, none⟩ (.string D) = W5 := ⟨_, rfl⟩
    rw [hW5] at HB5 HX5 ⊢
    clear hW5 HB4 HX4
    obtain ⟨x0, x1, x2, x3, x4, x5, x6, x7⟩ := cells8 HX5
    clear HX5
    go_upto_region 12 with (first | (go_at_call 13; refine (hput _).mono ?_; rintro e w6 ⟨A6, c6, rfl, HC6, HL6, hb⟩; have HB6 := Aside0.mk (below_step HB5.out hb); clear hb))
    clear x0 x1 x2 x3 x4 x5 x6 x7
    obtain ⟨hsl, hT⟩ := hst _ (Kd.C_below HC0.out HB6.out)
    have HT := Aside0.mk hT
    clear hT hst
    go_wp2_with (first | (go_at_call 17; refine (hsame _ _ _ HC6.out HL6.out HT.out).mono ?_; rintro e w7 ⟨rfl, ⟨⟨nd7, rfl⟩⟩⟩))
    go_ret
    exact ⟨rfl, pw_below_drewN HB6.out nd7⟩

end Go.Proofs.Ytekfgmpldgoglaa.X
