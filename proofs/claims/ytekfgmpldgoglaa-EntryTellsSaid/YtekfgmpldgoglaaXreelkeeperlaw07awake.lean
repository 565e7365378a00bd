import Derived.Test.YtekfgmpldgoglaaXK
import Derived.Test.YtekfgmpldgoglaaXGentry
import Derived.Test.YtekfgmpldgoglaaXGhead
import Derived.Test.YtekfgmpldgoglaaXGnum
import Derived.Test.YtekfgmpldgoglaaYAll
import Derived.Test.YtekfgmpldgoglaaPGA
import Derived.Test.YtekfgmpldgoglaaPGE
import Derived.Laws.EntriesVeiled
import Derived.WalkSpells
namespace Go.Proofs.Ytekfgmpldgoglaa.X
open Go.RowKit Go.Proofs.YtekfgmpldgoglaaW.PrintWords Go.Proofs.YtekfgmpldgoglaaW.PrintLast Go.Proofs.YtekfgmpldgoglaaW.PrintMore
attribute [local go_sem] max2_int min2_int max_two min_two
set_option linter.unusedVariables false
set_option linter.unusedSimpArgs false

open Go.Proofs.YtekfgmpldgoglaaY
theorem awake7_one (D : ByteArray) (hD : D.size = 513) : oneB ⟨⟨#[97]⟩, ⟨#[]⟩, 48, 0, 0, 0, 0, D⟩ = true := by
  unfold oneB oneKind
  rw [if_pos rfl]
  show ((decide ((⟨#[]⟩ : ByteArray).size = 0) && decide (D.size ≤ 4000)) && mayL (⟨#[97]⟩ : ByteArray).data.toList && _ && _ && _ && _) = true
  have hm : mayL (⟨#[97]⟩ : ByteArray).data.toList = true := by decide +kernel
  rw [decide_eq_true (show D.size ≤ 4000 by omega), hm]
  simp
  rfl
set_option maxHeartbeats 1600000 in
set_option maxRecDepth 100000 in
theorem awake7.at_ (w : World) : Calls Try.prog 24 #[] w fun e w' => e = .returned (.bool true) ∧ Below w.heap.size w w' := by
  obtain ⟨z0, hz0⟩ : ∃ z, List.replicate 513 (0 : Int) = z := ⟨_, rfl⟩
  have hmk : ∀ W : World, (Instr.makeSlice 41 (.int .i64 513) (.int .i64 513)).run Try.prog W = .ok (.slice (some ⟨W.heap.size, 0, none⟩) 513 513) (W.alloc (.cells (nums .u8 z0).toArray 5)) := by
    intro W
    obtain ⟨i0, hi, hz0', hz1, hz2⟩ := info_parts info5
    have := run_make (P := Try.prog) W 41 5 i0 (.int .u8 0) Try.underlying41 hi hz0' .i64 .i64 513 513 (by decide) (by decide) (by rw [hz2]; decide) (by decide)
    rw [this, hz1]
    show Result.ok _ (W.alloc (.cells (madeCells #[Value.int .u8 0] 513) _)) = _
    rw [made_nums, hz0]
    rfl
  obtain ⟨D, hDe⟩ : ∃ D, strOfNums z0 = D := ⟨_, rfl⟩
  have hD : D.size = 513 := by rw [← hDe, strOfNums_size, ← hz0]; rfl
  have hzl : z0.length = 513 := by rw [← hz0]; rfl
  have hcv : ∀ W : World, (convert 41 9 (.slice (some ⟨W.heap.size, 0, none⟩) 513 513)).run Try.prog (W.alloc (.cells (nums .u8 z0).toArray 5)) = .ok (.string D) (W.alloc (.cells (nums .u8 z0).toArray 5)) := by
    intro W
    have hC : Kd.C (Kd.int .u8) (W.alloc (.cells (nums .u8 z0).toArray 5)) (some ⟨W.heap.size, 0, none⟩) 513 z0 := by
      have := C_block (heap_alloc_new W (.cells (nums .u8 z0).toArray 5)) (by rw [hzl]; decide)
      rwa [hzl] at this
    rw [← hDe]
    exact Kd.C_string (P := Try.prog) Try.underlying41 Try.underlying5 Try.underlying9 hC
  clear hDe hz0 hzl
  have ho := awake7_one D hD
  have hf := oneB_facts ho
  obtain ⟨n, hn⟩ : ∃ n : Nd, n = ⟨⟨#[97]⟩, ⟨#[]⟩, 48, 0, 0, 0, 0, D⟩ := ⟨_, rfl⟩
  rw [← hn] at ho hf
  have e0 : n.f0 = ⟨#[97]⟩ := by rw [hn]
  have e1 : n.f1 = ⟨#[]⟩ := by rw [hn]
  have e7 : n.f7 = D := by rw [hn]
  have hlen : (entryB n).length = 3 := by
    rw [entryB_length hf, aheadB_count hf, if_neg (by rw [e1]; decide), if_neg (fun c => by have := needs_big hf c; rw [e0] at this; revert this; decide), e7, hD]
    rfl
  have hp := entryPut_yes ho
  have hh := entryHead_yes ho
  have hm : entry_Many.f n.f0 n.f1 n.f2 n.f3 n.f4 n.f5 n.f6 n.f7 = some 3 := by unfold entry_Many.f; rw [hp]; simp [hlen]
  have hd : entry_Data.f n.f0 n.f1 n.f2 n.f3 n.f4 n.f5 n.f6 n.f7 = some 2 := by
    unfold entry_Data.f
    rw [one_b n (by rw [e0]; decide) (by rw [e1]; decide), ho]
    simp only [Option.bind_some, if_true]
    rw [many_f (by rw [e7, hD]; decide), e7, hD]
    rfl
  generalize entryB n = l at hp hlen
  obtain ⟨h0, g0⟩ : ∃ h, h = (entryHd n).f0 := ⟨_, rfl⟩
  obtain ⟨h1, g1⟩ : ∃ h, h = (entryHd n).f1 := ⟨_, rfl⟩
  obtain ⟨h2, g2⟩ : ∃ h, h = (entryHd n).f2 := ⟨_, rfl⟩
  have hh2 : entry_Head.f n.f0 n.f1 n.f2 n.f3 n.f4 n.f5 n.f6 n.f7 = some (h0, h1, h2, 0, 0, 0, 513, 0, 48, 0, 0, true) := by
    rw [hh, g0, g1, g2]
    have : (entryHd n).f6 = 513 := by show (n.f7.size : Int) = 513; rw [e7, hD]; rfl
    rw [this, hn]
    rfl
  clear hh g0 g1 g2
  subst hn
  simp only at hp hm hd hh2
  have hput := fun W => rows_flag (entry_Put.calls ⟨#[97]⟩ ⟨#[]⟩ 48 0 0 0 0 D l true W hp)
  have hhead := fun W => entry_Head.calls ⟨#[97]⟩ ⟨#[]⟩ 48 0 0 0 0 D h0 h1 h2 0 0 0 513 0 48 0 0 true W hh2
  have hmany := fun W => entry_Many.calls ⟨#[97]⟩ ⟨#[]⟩ 48 0 0 0 0 D 3 W hm
  have hdata := fun W => entry_Data.calls ⟨#[97]⟩ ⟨#[]⟩ 48 0 0 0 0 D 2 W hd
  rw [hlen] at hput
  clear hp hm hd hh2 hlen ho hf e0 e1 e7 hD
  have hz1 : (w.alloc (.cells (nums .u8 z0).toArray 5)).heap.size = w.heap.size + 1 := by simp
  have HB0 := Aside0.mk (below_alloc (below_alloc (Below.refl w.heap.size w) (.cells (nums .u8 z0).toArray 5)) (.cells #[.string ⟨#[97]⟩, .string ⟨#[]⟩, .int .u8 48, .int .i64 0, .int .i64 0, .int .i64 0, .int .i64 0, .string D] 23))
  have HXn_0 := Aside0.mk (heap_alloc_new (w.alloc (.cells (nums .u8 z0).toArray 5)) (.cells #[.string ⟨#[97]⟩, .string ⟨#[]⟩, .int .u8 48, .int .i64 0, .int .i64 0, .int .i64 0, .int .i64 0, .string D] 23))
  rw [hz1] at HXn_0
  have zz := 0
  clear zz hz1
  have zn0_0 := (blk_cell HXn_0.out 0).trans (show _ = some (Value.string ⟨#[97]⟩) from rfl)
  have zn1_0 := (blk_cell HXn_0.out 1).trans (show _ = some (Value.string ⟨#[]⟩) from rfl)
  have zn2_0 := (blk_cell HXn_0.out 2).trans (show _ = some (Value.int .u8 48) from rfl)
  have zn3_0 := (blk_cell HXn_0.out 3).trans (show _ = some (Value.int .i64 0) from rfl)
  have zn4_0 := (blk_cell HXn_0.out 4).trans (show _ = some (Value.int .i64 0) from rfl)
  have zn5_0 := (blk_cell HXn_0.out 5).trans (show _ = some (Value.int .i64 0) from rfl)
  have zn6_0 := (blk_cell HXn_0.out 6).trans (show _ = some (Value.int .i64 0) from rfl)
  have zn7_0 := (blk_cell HXn_0.out 7).trans (show _ = some (Value.string D) from rfl)
  go_enter Try.func24, Try.ntmps24
  go_wp2_with (first | (go_at_call 27; refine (hput _).mono ?_; rintro e w1 ⟨Aa, ca, rfl, HCa, HLa, hb⟩; have HB1 := Aside0.mk (below_step (by repeat (first | exact HB0.out | apply below_alloc | apply pw_below_drewN | apply below_drew1)) hb); have HXn_1 := Aside0.mk (blk_below (by repeat (first | exact HXn_0.out | apply blk_alloc | apply blk_drewN | apply blk_drew)) hb); clear hb; have zn0_1 := (blk_cell HXn_1.out 0).trans (show _ = some (Value.string ⟨#[97]⟩) from rfl); have zn1_1 := (blk_cell HXn_1.out 1).trans (show _ = some (Value.string ⟨#[]⟩) from rfl); have zn2_1 := (blk_cell HXn_1.out 2).trans (show _ = some (Value.int .u8 48) from rfl); have zn3_1 := (blk_cell HXn_1.out 3).trans (show _ = some (Value.int .i64 0) from rfl); have zn4_1 := (blk_cell HXn_1.out 4).trans (show _ = some (Value.int .i64 0) from rfl); have zn5_1 := (blk_cell HXn_1.out 5).trans (show _ = some (Value.int .i64 0) from rfl); have zn6_1 := (blk_cell HXn_1.out 6).trans (show _ = some (Value.int .i64 0) from rfl); have zn7_1 := (blk_cell HXn_1.out 7).trans (show _ = some (Value.string D) from rfl)) | (go_at_call 25; refine (hhead _).mono ?_; rintro e w2 ⟨rfl, hb⟩; have HB2 := Aside0.mk (below_alloc (below_step HB1.out hb) (.cells #[.string h0, .string h1, .string h2, .int .i64 0, .int .i64 0, .int .i64 0, .int .i64 513, .int .i64 0, .int .u8 48, .int .i64 0, .int .i64 0] 37)); have HXn_2 := Aside0.mk (blk_alloc (blk_below HXn_1.out hb) (.cells #[.string h0, .string h1, .string h2, .int .i64 0, .int .i64 0, .int .i64 0, .int .i64 513, .int .i64 0, .int .u8 48, .int .i64 0, .int .i64 0] 37)); have HXh_2 := Aside0.mk (heap_alloc_new w2 (.cells #[.string h0, .string h1, .string h2, .int .i64 0, .int .i64 0, .int .i64 0, .int .i64 513, .int .i64 0, .int .u8 48, .int .i64 0, .int .i64 0] 37)); clear hb; have zn0_2 := (blk_cell HXn_2.out 0).trans (show _ = some (Value.string ⟨#[97]⟩) from rfl); have zn1_2 := (blk_cell HXn_2.out 1).trans (show _ = some (Value.string ⟨#[]⟩) from rfl); have zn2_2 := (blk_cell HXn_2.out 2).trans (show _ = some (Value.int .u8 48) from rfl); have zn3_2 := (blk_cell HXn_2.out 3).trans (show _ = some (Value.int .i64 0) from rfl); have zn4_2 := (blk_cell HXn_2.out 4).trans (show _ = some (Value.int .i64 0) from rfl); have zn5_2 := (blk_cell HXn_2.out 5).trans (show _ = some (Value.int .i64 0) from rfl); have zn6_2 := (blk_cell HXn_2.out 6).trans (show _ = some (Value.int .i64 0) from rfl); have zn7_2 := (blk_cell HXn_2.out 7).trans (show _ = some (Value.string D) from rfl)) | (go_at_call 29; refine (hmany _).mono ?_; rintro e w3 ⟨rfl, hb⟩; have HB3 := Aside0.mk (below_step (by repeat (first | exact HB2.out | apply below_alloc | apply pw_below_drewN | apply below_drew1)) hb); have HXn_3 := Aside0.mk (blk_below (by repeat (first | exact HXn_2.out | apply blk_alloc | apply blk_drewN | apply blk_drew)) hb); have HXh_3 := Aside0.mk (blk_below HXh_2.out hb); clear hb; have zn0_3 := (blk_cell HXn_3.out 0).trans (show _ = some (Value.string ⟨#[97]⟩) from rfl); have zn1_3 := (blk_cell HXn_3.out 1).trans (show _ = some (Value.string ⟨#[]⟩) from rfl); have zn2_3 := (blk_cell HXn_3.out 2).trans (show _ = some (Value.int .u8 48) from rfl); have zn3_3 := (blk_cell HXn_3.out 3).trans (show _ = some (Value.int .i64 0) from rfl); have zn4_3 := (blk_cell HXn_3.out 4).trans (show _ = some (Value.int .i64 0) from rfl); have zn5_3 := (blk_cell HXn_3.out 5).trans (show _ = some (Value.int .i64 0) from rfl); have zn6_3 := (blk_cell HXn_3.out 6).trans (show _ = some (Value.int .i64 0) from rfl); have zn7_3 := (blk_cell HXn_3.out 7).trans (show _ = some (Value.string D) from rfl)) | (go_at_call 31; refine (hdata _).mono ?_; rintro e w4 ⟨rfl, hb⟩; have HB4 := Aside0.mk (below_step (by repeat (first | exact HB3.out | apply below_alloc | apply pw_below_drewN | apply below_drew1)) hb); have HXn_4 := Aside0.mk (blk_below (by repeat (first | exact HXn_3.out | apply blk_alloc | apply blk_drewN | apply blk_drew)) hb); have HXh_4 := Aside0.mk (blk_below HXh_3.out hb); have zh6_4 := (blk_cell HXh_4.out 6).trans (show _ = some (Value.int .i64 513) from rfl); clear hb; have zn0_4 := (blk_cell HXn_4.out 0).trans (show _ = some (Value.string ⟨#[97]⟩) from rfl); have zn1_4 := (blk_cell HXn_4.out 1).trans (show _ = some (Value.string ⟨#[]⟩) from rfl); have zn2_4 := (blk_cell HXn_4.out 2).trans (show _ = some (Value.int .u8 48) from rfl); have zn3_4 := (blk_cell HXn_4.out 3).trans (show _ = some (Value.int .i64 0) from rfl); have zn4_4 := (blk_cell HXn_4.out 4).trans (show _ = some (Value.int .i64 0) from rfl); have zn5_4 := (blk_cell HXn_4.out 5).trans (show _ = some (Value.int .i64 0) from rfl); have zn6_4 := (blk_cell HXn_4.out 6).trans (show _ = some (Value.int .i64 0) from rfl); have zn7_4 := (blk_cell HXn_4.out 7).trans (show _ = some (Value.string D) from rfl)))
  go_ret
  exact ⟨rfl, HB4.out⟩
def reelkeeperlaw07_awake.f : Option Bool := some true
theorem reelkeeperlaw07_awake.calls (r : Bool) (w : World) (h : reelkeeperlaw07_awake.f = some r) : Calls Try.prog 24 #[] w fun e w' => e = .returned (.bool r) ∧ Below w.heap.size w w' := by
  obtain rfl : true = r := Option.some.inj h
  exact awake7.at_ w

end Go.Proofs.Ytekfgmpldgoglaa.X
