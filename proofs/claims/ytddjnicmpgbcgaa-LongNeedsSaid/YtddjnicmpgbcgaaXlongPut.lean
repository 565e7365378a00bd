import Derived.Test.YtddjnicmpgbcgaaXK
import Derived.Test.YtddjnicmpgbcgaaXGslices
import Derived.Test.YtddjnicmpgbcgaaXblockCut
import Derived.Test.YtddjnicmpgbcgaaXblockpieces
import Derived.Test.YtddjnicmpgbcgaaXheadMay
import Derived.Test.YtddjnicmpgbcgaaXheadPut
import Derived.Test.YtddjnicmpgbcgaaXlongText
import Derived.Test.YtddjnicmpgbcgaaYConv
import Derived.Test.YtddjnicmpgbcgaaYCopy
import Derived.Test.YtddjnicmpgbcgaaYIter
import Derived.Laws.EntriesVeiled
import Derived.WalkSpells
namespace Go.Proofs.Ytddjnicmpgbcgaa.X
open Go.RowKit Go.Proofs.YtddjnicmpgbcgaaW.PrintWords Go.Proofs.YtddjnicmpgbcgaaW.PrintLast Go.Proofs.YtddjnicmpgbcgaaW.PrintMore
attribute [local go_sem] max2_int min2_int max_two min_two max_three min_three max_four min_four
set_option linter.unusedVariables false
set_option linter.unusedSimpArgs false

open Go.Proofs.YtddjnicmpgbcgaaY
theorem InRow.lit {e base : Nat} {ok : Nat → Prop} {w : World} {v : Value} {x : List Int} (h : Kd.R (Kd.int .u8) e w base ok v x) (he : e = 5) : InRow base (w.alloc (.cells #[v] 50)) (some ⟨w.heap.size, 0, none⟩, 1, [x]) := by
  subst he
  refine ⟨Nat.le_refl _, rfl, by simp, fun _ => ⟨_, rfl, fun j p hp => ?_⟩⟩
  cases j with
  | succ j => simp at hp
  | zero =>
    simp only [List.getElem?_cons_zero, Option.some.injEq] at hp
    subst hp
    refine ⟨[v], rfl, ⟨v, rfl, Kd.R_mono (Kd.R_alloc h _) (fun _ _ => trivial)⟩, fun i u hu => ?_⟩
    cases i with
    | succ i => simp at hu
    | zero =>
      simp only [List.getElem?_cons_zero, Option.some.injEq] at hu
      subst hu
      rw [add_plain, blk_cell (heap_alloc_new w _)]
      simp
/-- A long text's header. -/
def longHd (kind : Int) (s : ByteArray) : Hd := ⟨⟨#[46, 47, 46, 47, 64, 76, 111, 110, 103, 76, 105, 110, 107]⟩, ⟨#[]⟩, ⟨#[]⟩, 0, 0, 0, (s.size : Int) + 1, 0, kind, 0, 0⟩
def longL (kind : Int) (s : ByteArray) : List (List Int) := (headPut (longHd kind s)).1 :: cutL (s ++ ⟨#[0]⟩)
def longOk (kind : Int) (t : Bool) : Bool := (kind == 75 || kind == 76) && t
def long_Put.f (a0 : Int) (a1 : ByteArray) : Option (List (List Int) × Bool) :=
  if (0 ≤ a0 ∧ a0 ≤ 255) ∧ a1.size ≤ 10000 then (long_Text.f a1).bind fun t => some (if longOk a0 t = true then (longL a0 a1, true) else ([], false)) else none
set_option maxHeartbeats 1600000 in
set_option maxRecDepth 100000 in
theorem long_Put.ok (a0 : Int) (a1 : ByteArray) (w : World) (h0 : 0 ≤ a0 ∧ a0 ≤ 255) (h1 : a1.size ≤ 10000) (ht : long_Text.f a1 = some true) (hk : a0 = 75 ∨ a0 = 76) :
    Calls Try.prog 31 #[.int .u8 a0, .string a1] w fun e w' => ∃ v, e = .returned (.tuple #[v, .bool true]) ∧ Kd.R kRow 50 w' w.heap.size (fun _ => True) v (longL a0 a1) ∧ Below w.heap.size w w' := by
  have htext := fun W => long_Text.calls a1 true W ht
  have hhead := fun W => head_Put.calls ⟨#[46, 47, 46, 47, 64, 76, 111, 110, 103, 76, 105, 110, 107]⟩ ⟨#[]⟩ ⟨#[]⟩ 0 0 0 ((a1.size : Int) + 1) 0 a0 0 0 (headPut (longHd a0 a1)).1 (headPut (longHd a0 a1)).2 W (by
    unfold head_Put.f
    rw [if_pos ⟨h0, by simp, by simp, by simp, by simp only; omega, by simp, by simp, by simp⟩]
    rfl)
  have hcs : (cutL (a1 ++ ⟨#[0]⟩)).length ≤ 20000 := by
    unfold cutL
    rw [List.length_map]
    have h2 := (piecesA_size _ (a1 ++ ⟨#[0]⟩) rfl).1
    have h3 : (a1 ++ ⟨#[0]⟩ : ByteArray).size = a1.size + 1 := by rw [ByteArray.size_append]; rfl
    omega
  have hcut := fun W => block_Cut.calls (a1 ++ ⟨#[0]⟩) (cutL (a1 ++ ⟨#[0]⟩)) W (by
    unfold block_Cut.f
    rw [if_pos]
    have h3 : (a1 ++ ⟨#[0]⟩ : ByteArray).size = a1.size + 1 := by rw [ByteArray.size_append]; rfl
    omega)
  have HCS := Aside0.mk hcs
  have hlong : longL a0 a1 = (headPut (longHd a0 a1)).1 :: cutL (a1 ++ ⟨#[0]⟩) := rfl
  rw [hlong]
  generalize (headPut (longHd a0 a1)).1 = hb at *
  generalize (headPut (longHd a0 a1)).2 = ho at *
  generalize cutL (a1 ++ ⟨#[0]⟩) = cu at *
  have hhead2 : ∀ W, Calls Try.prog 62 #[.agg #[.string ⟨#[46, 47, 46, 47, 64, 76, 111, 110, 103, 76, 105, 110, 107]⟩, .string ⟨#[]⟩, .string ⟨#[]⟩, .int .i64 0, .int .i64 0, .int .i64 0, .int .i64 ((a1.size : Int) + 1), .int .i64 0, .int .u8 a0, .int .i64 0, .int .i64 0]] W fun e w' => ∃ A c, e = .returned (.tuple #[.slice A hb.length c, .bool ho]) ∧ Aside0 (Kd.R (Kd.int .u8) 5 w' W.heap.size (fun _ => True) (.slice A hb.length c) hb) ∧ Aside0 (Below W.heap.size W w') := fun W => (hhead W).mono (by
    rintro e w' ⟨v, rfl, hR, hB⟩
    obtain ⟨A, c, rfl⟩ := Kd.R_slice hR
    exact ⟨A, c, rfl, ⟨hR⟩, ⟨hB⟩⟩)
  have hcut2 : ∀ W, Calls Try.prog 64 #[.string (a1 ++ ⟨#[0]⟩)] W fun e w' => ∃ A c, e = .returned (.slice A cu.length c) ∧ Aside0 (Kd.R kRow 50 w' W.heap.size (fun _ => True) (.slice A cu.length c) cu) ∧ Aside0 (Below W.heap.size W w') := fun W => (hcut W).mono (by
    rintro e w' ⟨v, rfl, hR, hB⟩
    obtain ⟨A, c, rfl⟩ := Kd.R_slice hR
    exact ⟨A, c, rfl, ⟨hR⟩, ⟨hB⟩⟩)
  have hm : (a1.size : Int) + 1 ≤ 9223372036854775807 := by omega
  clear hhead hcut hlong ht hcs
  rcases hk with rfl | rfl
  all_goals
    go_enter Try.func31, Try.ntmps31
    go_wp2_with (first | (go_at_call 41; refine (htext _).mono ?_; rintro e w' ⟨rfl, ⟨nd, rfl⟩⟩) | (go_at_call 62; refine (hhead2 _).mono ?_; rintro e w1 ⟨A1, c1, rfl, HR1, HB1⟩) | (go_at_call 64; refine (hcut2 _).mono ?_; rintro e w2 ⟨A2, c2, rfl, HR2, HB2⟩))
    have hin1 := (InRow.lit HR1.out rfl).below HB2.out
    obtain ⟨A3, c3, hv3, hin2⟩ := InRow.of_R HR2.out (b := w.heap.size) (by have := HB1.out.size; simp at this ⊢; omega)
    injection hv3 with e1 e2 e3
    subst e1 e3
    have hB2 : Below w.heap.size w w2 := below_step (below_alloc (below_step (pw_below_drewN (Below.refl _ _) _) HB1.out) _) HB2.out
    have hcat := slices_Concat.at_ w.heap.size w2.heap.size [(some ⟨w1.heap.size, 0, none⟩, 1, [hb]), (A2, c2, cu)] (w2.alloc (.cells #[.slice (some ⟨w1.heap.size, 0, none⟩) 1 1, .slice A2 cu.length c2] 39)) (heap_alloc_new w2 _) (by
      intro x hx
      simp only [List.mem_cons, List.not_mem_nil, or_false] at hx
      rcases hx with rfl | rfl
      · exact hin1.below (below_alloc (Below.refl _ _) _)
      · exact hin2.below (below_alloc (Below.refl _ _) _)) (by have := HCS.out; simp only [totalL, List.map_cons, List.map_nil, List.sum_cons, List.sum_nil, List.length_cons, List.length_nil]; omega) (by simp) (by have := hB2.size; simp; omega)
    have HB := Aside0.mk hB2
    have hfl : flatL [(some (⟨w1.heap.size, 0, none⟩ : Addr), 1, [hb]), (A2, c2, cu)] = hb :: cu := by simp [flatL]
    rw [hfl] at hcat
    clear e2 hin1 hin2 hB2 hfl
    refine hcat.mono ?_
    rintro e w3 ⟨v, rfl, hR, hb3⟩
    obtain ⟨A5, c5, rfl⟩ := Kd.R_slice hR
    go_wp2_with (fail)
    go_ret2
    exact ⟨_, rfl, hR, below_step (below_alloc HB.out _) hb3⟩
set_option maxHeartbeats 1600000 in
set_option maxRecDepth 100000 in
theorem long_Put.no (a0 : Int) (a1 : ByteArray) (t : Bool) (w : World) (ht : long_Text.f a1 = some t) (hk : longOk a0 t = false) :
    Calls Try.prog 31 #[.int .u8 a0, .string a1] w fun e w' => e = .returned (.tuple #[.slice none 0 0, .bool false]) ∧ Below w.heap.size w w' := by
  have htext := fun W => long_Text.calls a1 t W ht
  unfold longOk at hk
  by_cases c1 : a0 = 75
  · subst c1
    have : t = false := by simpa using hk
    subst this
    clear hk
    go_enter Try.func31, Try.ntmps31
    go_wp2_with (first | (go_at_call 41; refine (htext _).mono ?_; rintro e w' ⟨rfl, ⟨nd, rfl⟩⟩))
    go_ret2
    exact ⟨rfl, pw_below_drewN (Below.refl _ _) _⟩
  by_cases c2 : a0 = 76
  · subst c2
    have : t = false := by simpa using hk
    subst this
    clear hk c1
    go_enter Try.func31, Try.ntmps31
    go_wp2_with (first | (go_at_call 41; refine (htext _).mono ?_; rintro e w' ⟨rfl, ⟨nd, rfl⟩⟩))
    go_ret2
    exact ⟨rfl, pw_below_drewN (Below.refl _ _) _⟩
  · have b1 : (a0 == 75) = false := beq_eq_false_iff_ne.2 c1
    have b2 : (a0 == 76) = false := beq_eq_false_iff_ne.2 c2
    have b3 := ne_of_beq b1
    have b4 := ne_of_beq b2
    clear hk c1 c2 ht
    go_enter Try.func31, Try.ntmps31
    go_wp2_with (first | (go_at_call 41; refine (htext _).mono ?_; rintro e w' ⟨rfl, ⟨nd, rfl⟩⟩))
    go_ret2
    exact ⟨rfl, Below.refl _ _⟩
theorem long_Put.calls (a0 : Int) (a1 : ByteArray) (r1 : List (List Int)) (r2 : Bool) (w : World) (h : long_Put.f a0 a1 = some (r1, r2)) :
    Calls Try.prog 31 #[.int .u8 a0, .string a1] w fun e w' => ∃ v0_ : Value, e = .returned (.tuple #[v0_, .bool r2]) ∧ Kd.R kRow 50 w' w.heap.size (fun _ => True) v0_ r1 ∧ Below w.heap.size w w' := by
  unfold long_Put.f at h
  by_cases hc : (0 ≤ a0 ∧ a0 ≤ 255) ∧ a1.size ≤ 10000
  · rw [if_pos hc] at h
    obtain ⟨t, ht, h⟩ := Option.bind_eq_some_iff.mp h
    have hr := Option.some.inj h
    cases hk : longOk a0 t with
    | true =>
      rw [if_pos hk] at hr
      obtain ⟨rfl, rfl⟩ := Prod.mk.inj hr
      unfold longOk at hk
      simp only [Bool.and_eq_true, Bool.or_eq_true, beq_iff_eq] at hk
      obtain ⟨hk1, rfl⟩ := hk
      exact long_Put.ok a0 a1 w hc.1 hc.2 ht hk1
    | false =>
      rw [if_neg (by rw [hk]; decide)] at hr
      obtain ⟨rfl, rfl⟩ := Prod.mk.inj hr
      refine (long_Put.no a0 a1 t w ht hk).mono ?_
      rintro e w' ⟨rfl, hb⟩
      exact ⟨_, rfl, Kd.R_nil _ _ _ _ _, hb⟩
  · rw [if_neg hc] at h
    cases h

end Go.Proofs.Ytddjnicmpgbcgaa.X
