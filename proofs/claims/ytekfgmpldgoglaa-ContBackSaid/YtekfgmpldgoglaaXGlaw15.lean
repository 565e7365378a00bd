import Derived.Test.YtekfgmpldgoglaaXK
import Derived.Test.YtekfgmpldgoglaaXGcont
import Derived.Test.YtekfgmpldgoglaaXGcontgot
import Derived.Test.YtekfgmpldgoglaaXGhead
import Derived.Test.YtekfgmpldgoglaaXGnum
import Derived.Test.YtekfgmpldgoglaaXGslices
import Derived.Test.YtekfgmpldgoglaaYAll
import Derived.Test.YtekfgmpldgoglaaP04f
import Derived.Test.YtekfgmpldgoglaaP04g
import Derived.Test.YtekfgmpldgoglaaP15a
import Derived.Test.YtekfgmpldgoglaaP15b
import Derived.Test.YtekfgmpldgoglaaP15c
import Derived.Test.YtekfgmpldgoglaaPGA
import Derived.Test.YtekfgmpldgoglaaPGE
import Derived.Deep.RegionHeld3
import Derived.Laws.EntriesVeiled
import Derived.WalkSpells
namespace Go.Proofs.Ytekfgmpldgoglaa.X
open Go.RowKit Go.Proofs.YtekfgmpldgoglaaW.PrintWords Go.Proofs.YtekfgmpldgoglaaW.PrintLast Go.Proofs.YtekfgmpldgoglaaW.PrintMore
attribute [local go_sem] max2_int min2_int max_two min_two
set_option linter.unusedVariables false
set_option linter.unusedSimpArgs false

open Go.Proofs.YtekfgmpldgoglaaY
set_option maxRecDepth 100000
theorem cont_Put.told (n : Nd) (h0 : n.f0.size ≤ 10000) (h1 : n.f1.size ≤ 10000) (off : Int) (w : World) :
    Calls Try.prog 13 #[.agg #[.string n.f0, .string n.f1, .int .u8 n.f2, .int .i64 n.f3, .int .i64 n.f4, .int .i64 n.f5, .int .i64 n.f6, .string n.f7], .int .i64 off] w fun e w' => ∃ A c, e = .returned (.tuple #[.slice A (contPutB n off).length c, .bool (contMayB n off)]) ∧ Aside0 (Kd.C kRow w' A (contPutB n off).length (contPutB n off)) ∧ Aside0 ((contPutB n off).length ≤ c) ∧ Below w.heap.size w w' :=
  rows_flag (cont_Put.at_ n.f0 n.f1 n.f2 n.f3 n.f4 n.f5 n.f6 n.f7 off (contMayB n off) (contPutB n off) w (may15_f h0 h1 off) (fun h => by unfold contPutB; rw [h]; rfl) (fun h W => by
    obtain ⟨⟨k, o⟩, a0, a1, _⟩ := contMayB_iff.1 h
    have f := oneB_facts o
    have hp := cont_put.one f a0 (Int.le_of_lt a1) (by have := f.data; omega) W
    unfold contPutB
    rw [if_pos h]
    exact hp))
theorem awake15_one (D : ByteArray) (hD : D.size = 1000) : oneB ⟨⟨#[97]⟩, ⟨#[]⟩, 48, 0, 0, 0, 0, D⟩ = true := by
  unfold oneB oneKind
  rw [if_pos rfl]
  show ((decide ((⟨#[]⟩ : ByteArray).size = 0) && decide (D.size ≤ 4000)) && mayL (⟨#[97]⟩ : ByteArray).data.toList && _ && _ && _ && _) = true
  have hm : mayL (⟨#[97]⟩ : ByteArray).data.toList = true := by decide +kernel
  rw [decide_eq_true (show D.size ≤ 4000 by omega), hm]
  simp
  rfl
/-- A text of noughts, made. -/
theorem made_text (n : Nat) (hn : n ≤ 100000) : ∃ (z : List Int) (D : ByteArray), D.size = n ∧ (∀ W : World, (Instr.makeSlice 41 (.int .i64 (n : Int)) (.int .i64 (n : Int))).run Try.prog W = .ok (.slice (some ⟨W.heap.size, 0, none⟩) n n) (W.alloc (.cells (nums .u8 z).toArray 5))) ∧
    ∀ W : World, (convert 41 9 (.slice (some ⟨W.heap.size, 0, none⟩) n n)).run Try.prog (W.alloc (.cells (nums .u8 z).toArray 5)) = .ok (.string D) (W.alloc (.cells (nums .u8 z).toArray 5)) := by
  obtain ⟨z0, hz0⟩ : ∃ z, List.replicate n (0 : Int) = z := ⟨_, rfl⟩
  have hmk : ∀ W : World, (Instr.makeSlice 41 (.int .i64 (n : Int)) (.int .i64 (n : Int))).run Try.prog W = .ok (.slice (some ⟨W.heap.size, 0, none⟩) n n) (W.alloc (.cells (nums .u8 z0).toArray 5)) := by
    intro W
    obtain ⟨i0, hi, hz0', hz1, hz2⟩ := info_parts info5
    have := run_make (P := Try.prog) W 41 5 i0 (.int .u8 0) Try.underlying41 hi hz0' .i64 .i64 (n : Int) (n : Int) (by omega) (by omega) (by rw [hz2]; omega) (by omega)
    rw [this, hz1]
    show Result.ok _ (W.alloc (.cells (madeCells #[Value.int .u8 0] _) _)) = _
    rw [Int.toNat_natCast, made_nums, Nat.mul_one, hz0]
  have hzl : z0.length = n := by rw [← hz0, List.length_replicate]
  refine ⟨z0, strOfNums z0, by rw [strOfNums_size, hzl], hmk, ?_⟩
  intro W
  have hC : Kd.C (Kd.int .u8) (W.alloc (.cells (nums .u8 z0).toArray 5)) (some ⟨W.heap.size, 0, none⟩) n z0 := by
    have := C_block (heap_alloc_new W (.cells (nums .u8 z0).toArray 5)) (by rw [hzl]; omega)
    rwa [hzl] at this
  exact Kd.C_string (P := Try.prog) Try.underlying41 Try.underlying5 Try.underlying9 hC
set_option maxHeartbeats 3200000 in
theorem awake15.at_ (w : World) : Calls Try.prog 10 #[] w fun e w' => e = .returned (.bool true) ∧ Below w.heap.size w w' := by
  obtain ⟨z0, D, hD, hmk, hcv⟩ := made_text 1000 (by decide)
  have ho := awake15_one D hD
  have hf := oneB_facts ho
  have hm1 : contMayB ⟨⟨#[97]⟩, ⟨#[]⟩, 48, 0, 0, 0, 0, D⟩ 512 = true := contMayB_iff.2 ⟨⟨rfl, ho⟩, by decide, by show (512 : Int) < (D.size : Int); omega, by decide⟩
  have hm2 : contMayB ⟨⟨#[97]⟩, ⟨#[]⟩, 48, 0, 0, 0, 0, D⟩ 1024 = false := by
    rw [← Bool.not_eq_true, contMayB_iff]
    rintro ⟨_, _, h, _⟩
    have : (1024 : Int) < (D.size : Int) := h
    omega
  have hmn : contManyB ⟨⟨#[97]⟩, ⟨#[]⟩, 48, 0, 0, 0, 0, D⟩ = 1 := by
    unfold contManyB
    rw [if_pos (fileB_iff.2 ⟨rfl, ho⟩), if_neg (show ¬ 100 < (⟨#[97]⟩ : ByteArray).size by decide)]
  have hsz0 : (⟨⟨#[97]⟩, ⟨#[]⟩, 48, 0, 0, 0, 0, D⟩ : Nd).f0.size ≤ 10000 := by show (1 : Nat) ≤ 10000; decide
  have hsz1 : (⟨⟨#[97]⟩, ⟨#[]⟩, 48, 0, 0, 0, 0, D⟩ : Nd).f1.size ≤ 10000 := by show (0 : Nat) ≤ 10000; decide
  have hput := fun W => cont_Put.told ⟨⟨#[97]⟩, ⟨#[]⟩, 48, 0, 0, 0, 0, D⟩ hsz0 hsz1 512 W
  have hmay1 := fun W => cont_May.calls _ _ _ _ _ _ _ _ _ _ W (may15_f hsz0 hsz1 512)
  have hmay2 := fun W => cont_May.calls _ _ _ _ _ _ _ _ _ _ W (may15_f hsz0 hsz1 1024)
  have hmany := fun W => cont_Many.calls _ _ _ _ _ _ _ _ _ W (many15_f hsz0 hsz1)
  have hg := contGet_put (n := ⟨⟨#[97]⟩, ⟨#[]⟩, 48, 0, 0, 0, 0, D⟩) hf rfl (off := 512) (by decide) (by show (512 : Int) < (D.size : Int); omega) (by decide) []
  have hL : contPutB ⟨⟨#[97]⟩, ⟨#[]⟩, 48, 0, 0, 0, 0, D⟩ 512 = contB ⟨⟨#[97]⟩, ⟨#[]⟩, 48, 0, 0, 0, 0, D⟩ 512 ((⟨⟨#[97]⟩, ⟨#[]⟩, 48, 0, 0, 0, 0, D⟩ : Nd).f7.size : Int) := by unfold contPutB; rw [if_pos hm1]
  have hLl := contB_length hf 512 ((⟨⟨#[97]⟩, ⟨#[]⟩, 48, 0, 0, 0, 0, D⟩ : Nd).f7.size : Int)
  have hLb := contB_bytes hf 512 ((⟨⟨#[97]⟩, ⟨#[]⟩, 48, 0, 0, 0, 0, D⟩ : Nd).f7.size : Int)
  rw [if_neg (show ¬ 100 < (⟨#[97]⟩ : ByteArray).size by decide)] at hLl
  rw [List.append_nil, hLl] at hg
  rw [← hL] at hg hLl hLb
  have hsz7 : ((⟨⟨#[97]⟩, ⟨#[]⟩, 48, 0, 0, 0, 0, D⟩ : Nd).f7.size : Int) = 1000 := by show (D.size : Int) = 1000; omega
  rw [hsz7] at hg
  rw [hm1] at hput hmay1
  rw [hm2] at hmay2
  rw [hmn] at hmany
  generalize contPutB ⟨⟨#[97]⟩, ⟨#[]⟩, 48, 0, 0, 0, 0, D⟩ 512 = L at *
  have hget : ∀ (W : World) (A : Option Addr) (c : Nat), Kd.C kRow W A L.length L → L.length ≤ c → Calls Try.prog 15 #[.slice A 1 c] W fun e w' => e = .returned (.tuple #[.agg #[.string ⟨#[97]⟩, .string ⟨#[]⟩, .int .u8 48, .int .i64 0, .int .i64 0, .int .i64 0, .int .i64 0, .string ⟨#[]⟩], .int .i64 512, .int .i64 1000, .int .i64 1, .bool true]) ∧ Below W.heap.size W w' := fun W A c hC hc => by
    have h_ := cont_Get.at_ A c L W hC hc hLb (by omega)
    rw [hg, hLl] at h_
    exact h_
  have hput : ∀ W, Calls Try.prog 13 #[.agg #[.string ⟨#[97]⟩, .string ⟨#[]⟩, .int .u8 48, .int .i64 0, .int .i64 0, .int .i64 0, .int .i64 0, .string D], .int .i64 512] W fun e w' => ∃ A c, e = .returned (.tuple #[.slice A 1 c, .bool true]) ∧ Aside0 (Kd.C kRow w' A L.length L) ∧ Aside0 (L.length ≤ c) ∧ Below W.heap.size W w' := fun W => (hput W).mono (by
    rintro e w' ⟨A, c, rfl, h1, h2, hB⟩
    exact ⟨A, c, by rw [hLl], h1, h2, hB⟩)
  have HLl := Aside0.mk hLl
  clear hg hL hLl hLb hm1 hm2 hmn ho hf hsz7 hsz0 hsz1 hD
  have hz1 : (w.alloc (.cells (nums .u8 z0).toArray 5)).heap.size = w.heap.size + 1 := by simp
  have HB0 := Aside0.mk (below_alloc (below_alloc (Below.refl w.heap.size w) (.cells (nums .u8 z0).toArray 5)) (.cells #[.string ⟨#[97]⟩, .string ⟨#[]⟩, .int .u8 48, .int .i64 0, .int .i64 0, .int .i64 0, .int .i64 0, .string D] 23))
  have HXn_0 := Aside0.mk (heap_alloc_new (w.alloc (.cells (nums .u8 z0).toArray 5)) (.cells #[.string ⟨#[97]⟩, .string ⟨#[]⟩, .int .u8 48, .int .i64 0, .int .i64 0, .int .i64 0, .int .i64 0, .string D] 23))
  rw [hz1] at HXn_0
  clear hz1
  obtain ⟨zn0_0, zn1_0, zn2_0, zn3_0, zn4_0, zn5_0, zn6_0, zn7_0⟩ := cells8 HXn_0.out
  rw [show ((1000 : Nat) : Int) = 1000 from rfl] at hmk
  go_enter Try.func10, Try.ntmps10
  go_wp2_with (first | (go_at_call 13; refine (hput _).mono ?_; rintro e w1 ⟨Aa, ca, rfl, HCa, HLa, hb⟩; have HB1 := Aside0.mk (below_step (by repeat (first | exact HB0.out | apply below_alloc | apply pw_below_drewN | apply below_drew1)) hb); have HXn_1 := Aside0.mk (blk_below (by repeat (first | exact HXn_0.out | apply blk_alloc | apply blk_drewN | apply blk_drew)) hb); clear hb; obtain ⟨zn0_1, zn1_1, zn2_1, zn3_1, zn4_1, zn5_1, zn6_1, zn7_1⟩ := cells8 HXn_1.out) | (go_at_call 15; refine (hget _ _ _ HCa.out HLa.out).mono ?_; rintro e w2 ⟨rfl, hb⟩; have HB2 := Aside0.mk (below_alloc (below_step HB1.out hb) (.cells #[.string ⟨#[97]⟩, .string ⟨#[]⟩, .int .u8 48, .int .i64 0, .int .i64 0, .int .i64 0, .int .i64 0, .string ⟨#[]⟩] 23)); have HXn_2 := Aside0.mk (blk_alloc (blk_below HXn_1.out hb) (.cells #[.string ⟨#[97]⟩, .string ⟨#[]⟩, .int .u8 48, .int .i64 0, .int .i64 0, .int .i64 0, .int .i64 0, .string ⟨#[]⟩] 23)); have HXm_2 := Aside0.mk (heap_alloc_new w2 (.cells #[.string ⟨#[97]⟩, .string ⟨#[]⟩, .int .u8 48, .int .i64 0, .int .i64 0, .int .i64 0, .int .i64 0, .string ⟨#[]⟩] 23)); clear hb; obtain ⟨zn0_2, zn1_2, zn2_2, zn3_2, zn4_2, zn5_2, zn6_2, zn7_2⟩ := cells8 HXn_2.out; obtain ⟨zm0_2, zm1_2, zm2_2, zm3_2, zm4_2, zm5_2, zm6_2, zm7_2⟩ := cells8 HXm_2.out) | (go_at_call 20; refine (hmany _).mono ?_; rintro e w3 ⟨rfl, hb⟩; have HB3 := Aside0.mk (below_step (by repeat (first | exact HB2.out | apply below_alloc | apply pw_below_drewN | apply below_drew1)) hb); have HXn_3 := Aside0.mk (blk_below (by repeat (first | exact HXn_2.out | apply blk_alloc | apply blk_drewN | apply blk_drew)) hb); have HXm_3 := Aside0.mk (blk_below (by repeat (first | exact HXm_2.out | apply blk_alloc | apply blk_drewN | apply blk_drew)) hb); clear hb; obtain ⟨zn0_3, zn1_3, zn2_3, zn3_3, zn4_3, zn5_3, zn6_3, zn7_3⟩ := cells8 HXn_3.out; obtain ⟨zm0_3, zm1_3, zm2_3, zm3_3, zm4_3, zm5_3, zm6_3, zm7_3⟩ := cells8 HXm_3.out) | (have _t := HB3; go_at_call 19; (with_reducible refine (hmay1 _).mono ?_); rintro e w4 ⟨rfl, hb⟩; have HB4 := Aside0.mk (below_step (by repeat (first | exact HB3.out | apply below_alloc | apply pw_below_drewN | apply below_drew1)) hb); have HXn_4 := Aside0.mk (blk_below (by repeat (first | exact HXn_3.out | apply blk_alloc | apply blk_drewN | apply blk_drew)) hb); have HXm_4 := Aside0.mk (blk_below (by repeat (first | exact HXm_3.out | apply blk_alloc | apply blk_drewN | apply blk_drew)) hb); clear hb; obtain ⟨zn0_4, zn1_4, zn2_4, zn3_4, zn4_4, zn5_4, zn6_4, zn7_4⟩ := cells8 HXn_4.out; obtain ⟨zm0_4, zm1_4, zm2_4, zm3_4, zm4_4, zm5_4, zm6_4, zm7_4⟩ := cells8 HXm_4.out) | (have _t := HB4; go_at_call 19; (with_reducible refine (hmay2 _).mono ?_); rintro e w5 ⟨rfl, hb⟩; have HB5 := Aside0.mk (below_step (by repeat (first | exact HB4.out | apply below_alloc | apply pw_below_drewN | apply below_drew1)) hb); have HXn_5 := Aside0.mk (blk_below (by repeat (first | exact HXn_4.out | apply blk_alloc | apply blk_drewN | apply blk_drew)) hb); have HXm_5 := Aside0.mk (blk_below (by repeat (first | exact HXm_4.out | apply blk_alloc | apply blk_drewN | apply blk_drew)) hb); clear hb; obtain ⟨zn0_5, zn1_5, zn2_5, zn3_5, zn4_5, zn5_5, zn6_5, zn7_5⟩ := cells8 HXn_5.out; obtain ⟨zm0_5, zm1_5, zm2_5, zm3_5, zm4_5, zm5_5, zm6_5, zm7_5⟩ := cells8 HXm_5.out))
  go_ret
  exact ⟨rfl, HB5.out⟩

end Go.Proofs.Ytekfgmpldgoglaa.X
