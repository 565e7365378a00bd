import Derived.Test.YtlecnodlnkanaaaXK
import Derived.Test.YtlecnodlnkanaaaXGlong
import Derived.Test.YtlecnodlnkanaaaXreelkeeperlaw05text
import Derived.Test.YtlecnodlnkanaaaPGA
import Derived.Laws.EntriesVeiled
import Derived.WalkSpells
namespace Go.Proofs.Ytlecnodlnkanaaa.X
open Go.RowKit Go.Proofs.YtlecnodlnkanaaaW.PrintWords Go.Proofs.YtlecnodlnkanaaaW.PrintLast Go.Proofs.YtlecnodlnkanaaaW.PrintMore
attribute [local go_sem] max2_int min2_int max_two min_two
set_option linter.unusedVariables false
set_option linter.unusedSimpArgs false

open Go.Proofs.YtlecnodlnkanaaaY
def T120 : ByteArray := ⟨#[97, 97, 97, 97, 97, 97, 97, 97, 97, 97, 97, 97, 97, 97, 97, 97, 97, 97, 97, 97, 97, 97, 97, 97, 97, 97, 97, 97, 97, 97, 97, 97, 97, 97, 97, 97, 97, 97, 97, 97, 97, 97, 97, 97, 97, 97, 97, 97, 97, 97, 97, 97, 97, 97, 97, 97, 97, 97, 97, 97, 97, 97, 97, 97, 97, 97, 97, 97, 97, 97, 97, 97, 97, 97, 97, 97, 97, 97, 97, 97, 97, 97, 97, 97, 97, 97, 97, 97, 97, 97, 97, 97, 97, 97, 97, 97, 97, 97, 97, 97, 97, 97, 97, 97, 97, 97, 97, 97, 97, 97, 97, 97, 97, 97, 97, 97, 97, 97, 97, 97]⟩
theorem T120_may : mayL T120.data.toList = true := by decide +kernel
theorem T120_split : splitR T120 = noSplit := by decide +kernel
theorem T120_text : textB T120 = true := by decide +kernel
theorem a_text : long_Text.f ⟨#[97]⟩ = some true := by decide +kernel
theorem no_text : long_Text.f ⟨#[]⟩ = some false := by decide +kernel
theorem T120_ev : ∃ k, reelkeeperlaw05_text.f k 120 = some T120 := ⟨200, by decide +kernel⟩
theorem T120_facts : ∃ T : ByteArray, (∃ k, reelkeeperlaw05_text.f k 120 = some T) ∧ T.size = 120 ∧ mayL T.data.toList = true ∧ splitR T = noSplit ∧ textB T = true := ⟨T120, T120_ev, by decide +kernel, T120_may, T120_split, T120_text⟩
set_option maxHeartbeats 1600000 in
set_option maxRecDepth 100000 in
theorem awake5.at_ (w : World) : Calls Try.prog 33 #[] w fun e w' => e = .returned (.bool true) ∧ Below w.heap.size w w' := by
  obtain ⟨T, ⟨k1, h1⟩, hz, hmay, hsplit, htx⟩ := T120_facts
  have e1 : needsB T ⟨#[]⟩ = (true, false) := by unfold needsB; rw [hsplit, hmay]; rfl
  have e2 : namesB T ⟨#[]⟩ = (T.extract 0 100, ⟨#[]⟩, ⟨#[]⟩) := by unfold namesB; rw [e1, hsplit, if_pos rfl]; unfold shortB; rw [if_pos (by omega)]; rfl
  have e3 : longB 76 T = (longL 76 T, true) := by unfold longB; rw [htx]; rfl
  have e4 : (longL 76 T).length = 2 := by rw [longL_length, hz]; rfl
  have e5 : aheadB T ⟨#[]⟩ = longL 76 T := by unfold aheadB; rw [e1, e3]; rfl
  have htext := fun W => reelkeeperlaw05_text.calls k1 120 T W h1
  have hneeds := fun W => long_Needs.calls T ⟨#[]⟩ 0 0 0 0 0 ⟨#[]⟩ true false W ((needs_b T ⟨#[]⟩ 0 0 0 0 0 ⟨#[]⟩ (by omega)).trans (congrArg some e1))
  have hnames := fun W => long_Names.calls T ⟨#[]⟩ 0 0 0 0 0 ⟨#[]⟩ (T.extract 0 100) ⟨#[]⟩ ⟨#[]⟩ W ((names_f T ⟨#[]⟩ 0 0 0 0 0 ⟨#[]⟩ (by omega)).trans (congrArg some e2))
  have hput := fun W => rows_flag (long_Put.calls 76 T (longL 76 T) true W ((longPut_f (by decide) (by omega)).trans (congrArg some e3)))
  have hahead := fun W => rows_alone (long_Ahead.calls T ⟨#[]⟩ 0 0 0 0 0 ⟨#[]⟩ (longL 76 T) W ((ahead_f T ⟨#[]⟩ 0 0 0 0 0 ⟨#[]⟩ (by omega) (Nat.zero_le _)).trans (congrArg some e5)))
  have ht1 := fun W => long_Text.calls ⟨#[97]⟩ true W a_text
  have ht2 := fun W => long_Text.calls ⟨#[]⟩ false W no_text
  have hsz : (T.extract 0 100).size = 100 := by rw [ByteArray.size_extract]; omega
  generalize T.extract 0 100 = own at hsz hnames
  generalize longL 76 T = l at *
  rw [e4] at hput hahead
  have hsz2 : (own.size : Int) = 100 := by omega
  have HSZ := Aside0.mk hsz
  clear h1 hz hmay hsplit htx e1 e2 e3 e4 e5 hsz
  have HB0 := Aside0.mk (Below.refl w.heap.size w)
  go_enter Try.func33, Try.ntmps33
  go_wp2_with (first | (go_at_call 74; have _q3 := HB3; refine (htext _).mono ?_; rintro e w3a ⟨rfl, hb⟩; have HB3a := Aside0.mk (below_step HB3.out hb); have HXn_3a := Aside0.mk (blk_below HXn_3.out hb); clear hb) | (go_at_call 74; refine (htext _).mono ?_; rintro e w1 ⟨rfl, hb⟩; have HB1 := Aside0.mk (below_alloc (below_step HB0.out hb) (.cells #[.string T, .string ⟨#[]⟩, .int .u8 0, .int .i64 0, .int .i64 0, .int .i64 0, .int .i64 0, .string ⟨#[]⟩] 23)); have HXn_1 := Aside0.mk (heap_alloc_new w1 (.cells #[.string T, .string ⟨#[]⟩, .int .u8 0, .int .i64 0, .int .i64 0, .int .i64 0, .int .i64 0, .string ⟨#[]⟩] 23)); clear hb) | (go_at_call 75; refine (hneeds _).mono ?_; rintro e w2 ⟨rfl, hb⟩; have HB2 := Aside0.mk (below_step (by repeat (first | exact HB1.out | apply below_alloc | apply pw_below_drewN | apply below_drew1)) hb); have HXn_2 := Aside0.mk (blk_below (by repeat (first | exact HXn_1.out | apply blk_alloc | apply blk_drewN | apply blk_drew)) hb); clear hb; have zn0_2 := (blk_cell HXn_2.out 0).trans (show _ = some (Value.string T) from rfl); have zn1_2 := (blk_cell HXn_2.out 1).trans (show _ = some (Value.string ⟨#[]⟩) from rfl); have zn2_2 := (blk_cell HXn_2.out 2).trans (show _ = some (Value.int .u8 0) from rfl); have zn3_2 := (blk_cell HXn_2.out 3).trans (show _ = some (Value.int .i64 0) from rfl); have zn4_2 := (blk_cell HXn_2.out 4).trans (show _ = some (Value.int .i64 0) from rfl); have zn5_2 := (blk_cell HXn_2.out 5).trans (show _ = some (Value.int .i64 0) from rfl); have zn6_2 := (blk_cell HXn_2.out 6).trans (show _ = some (Value.int .i64 0) from rfl); have zn7_2 := (blk_cell HXn_2.out 7).trans (show _ = some (Value.string ⟨#[]⟩) from rfl)) | (go_at_call 76; refine (hnames _).mono ?_; rintro e w3 ⟨rfl, hb⟩; have HB3 := Aside0.mk (below_step (by repeat (first | exact HB2.out | apply below_alloc | apply pw_below_drewN | apply below_drew1)) hb); have HXn_3 := Aside0.mk (blk_below (by repeat (first | exact HXn_2.out | apply blk_alloc | apply blk_drewN | apply blk_drew)) hb); clear hb; have zn0_3 := (blk_cell HXn_3.out 0).trans (show _ = some (Value.string T) from rfl); have zn1_3 := (blk_cell HXn_3.out 1).trans (show _ = some (Value.string ⟨#[]⟩) from rfl); have zn2_3 := (blk_cell HXn_3.out 2).trans (show _ = some (Value.int .u8 0) from rfl); have zn3_3 := (blk_cell HXn_3.out 3).trans (show _ = some (Value.int .i64 0) from rfl); have zn4_3 := (blk_cell HXn_3.out 4).trans (show _ = some (Value.int .i64 0) from rfl); have zn5_3 := (blk_cell HXn_3.out 5).trans (show _ = some (Value.int .i64 0) from rfl); have zn6_3 := (blk_cell HXn_3.out 6).trans (show _ = some (Value.int .i64 0) from rfl); have zn7_3 := (blk_cell HXn_3.out 7).trans (show _ = some (Value.string ⟨#[]⟩) from rfl)) | (go_at_call 34; refine (hput _).mono ?_; rintro e w4 ⟨Aa, ca, rfl, HCa, HLa, hb⟩; have HB4 := Aside0.mk (below_step (by repeat (first | exact HB3a.out | apply below_alloc | apply pw_below_drewN | apply below_drew1)) hb); have HXn_4 := Aside0.mk (blk_below (by repeat (first | exact HXn_3a.out | apply blk_alloc | apply blk_drewN | apply blk_drew)) hb); clear hb; have zn0_4 := (blk_cell HXn_4.out 0).trans (show _ = some (Value.string T) from rfl); have zn1_4 := (blk_cell HXn_4.out 1).trans (show _ = some (Value.string ⟨#[]⟩) from rfl); have zn2_4 := (blk_cell HXn_4.out 2).trans (show _ = some (Value.int .u8 0) from rfl); have zn3_4 := (blk_cell HXn_4.out 3).trans (show _ = some (Value.int .i64 0) from rfl); have zn4_4 := (blk_cell HXn_4.out 4).trans (show _ = some (Value.int .i64 0) from rfl); have zn5_4 := (blk_cell HXn_4.out 5).trans (show _ = some (Value.int .i64 0) from rfl); have zn6_4 := (blk_cell HXn_4.out 6).trans (show _ = some (Value.int .i64 0) from rfl); have zn7_4 := (blk_cell HXn_4.out 7).trans (show _ = some (Value.string ⟨#[]⟩) from rfl)) | (go_at_call 65; refine (hahead _).mono ?_; rintro e w5 ⟨Ab, cb, rfl, HCb, HLb, hb⟩; have HB5 := Aside0.mk (below_step (by repeat (first | exact HB4.out | apply below_alloc | apply pw_below_drewN | apply below_drew1)) hb); have HXn_5 := Aside0.mk (blk_below (by repeat (first | exact HXn_4.out | apply blk_alloc | apply blk_drewN | apply blk_drew)) hb); clear hb; have zn0_5 := (blk_cell HXn_5.out 0).trans (show _ = some (Value.string T) from rfl); have zn1_5 := (blk_cell HXn_5.out 1).trans (show _ = some (Value.string ⟨#[]⟩) from rfl); have zn2_5 := (blk_cell HXn_5.out 2).trans (show _ = some (Value.int .u8 0) from rfl); have zn3_5 := (blk_cell HXn_5.out 3).trans (show _ = some (Value.int .i64 0) from rfl); have zn4_5 := (blk_cell HXn_5.out 4).trans (show _ = some (Value.int .i64 0) from rfl); have zn5_5 := (blk_cell HXn_5.out 5).trans (show _ = some (Value.int .i64 0) from rfl); have zn6_5 := (blk_cell HXn_5.out 6).trans (show _ = some (Value.int .i64 0) from rfl); have zn7_5 := (blk_cell HXn_5.out 7).trans (show _ = some (Value.string ⟨#[]⟩) from rfl)) | (go_at_call 35; (with_reducible refine (ht1 _).mono ?_); rintro e w6 ⟨rfl, ⟨nd6, rfl⟩⟩) | (go_at_call 35; (with_reducible refine (ht2 _).mono ?_); rintro e w7 ⟨rfl, ⟨nd7, rfl⟩⟩))
  go_ret
  exact ⟨rfl, (by repeat (first | exact HB5.out | apply pw_below_drewN | apply below_drew1))⟩
def reelkeeperlaw05_awake.f : Option Bool := some true
theorem reelkeeperlaw05_awake.calls (r : Bool) (w : World) (h : reelkeeperlaw05_awake.f = some r) : Calls Try.prog 33 #[] w fun e w' => e = .returned (.bool r) ∧ Below w.heap.size w w' := by
  obtain rfl : true = r := Option.some.inj h
  exact awake5.at_ w

end Go.Proofs.Ytlecnodlnkanaaa.X
