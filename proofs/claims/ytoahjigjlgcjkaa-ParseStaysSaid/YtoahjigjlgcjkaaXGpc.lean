import Derived.Test.YtoahjigjlgcjkaaXK
import Derived.Test.YtoahjigjlgcjkaaXGtrim
import Derived.Test.YtoahjigjlgcjkaaYAll
import Derived.Deep.RegionHeld3
import Derived.Laws.EntriesVeiled
import Derived.WalkSpells
namespace Go.Proofs.Ytoahjigjlgcjkaa.X
open Go.RowKit Go.Proofs.YtoahjigjlgcjkaaW.PrintWords Go.Proofs.YtoahjigjlgcjkaaW.PrintLast Go.Proofs.YtoahjigjlgcjkaaW.PrintMore
attribute [local go_sem] max2_int min2_int max_two min_two
set_option linter.unusedVariables false
set_option linter.unusedSimpArgs false

open Go.Proofs.YtoahjigjlgcjkaaY
set_option maxRecDepth 100000
def beginsB (s whole : ByteArray) : Bool := s.toList == (whole.extract 0 (min whole.size 100)).toList
set_option maxHeartbeats 1600000 in
theorem begins.at_ (s t : ByteArray) (w : World) :
    Calls Try.prog 82 #[.string s, .string t] w fun e w' => e = .returned (.bool (beginsB s t)) ∧ w = w' := by
  unfold beginsB
  by_cases h : (t.size : Int) ≤ 100
  · have h1 : decide ((100 : Int) < (t.size : Int)) = false := decide_eq_false (by omega)
    have h2 : min t.size 100 = t.size := by omega
    have h3 : (t.size : Int) ≤ 100 := by omega
    rw [h2]
    go_enter Try.func82, Try.ntmps82
    go_wp2
    go_ret
    exact ⟨by first | rfl | simp, rfl⟩
  · have h1 : decide ((100 : Int) < (t.size : Int)) = true := decide_eq_true (by omega)
    have h2 : min t.size 100 = 100 := by omega
    have h3 : (100 : Int) ≤ (t.size : Int) := by omega
    have h4 : 100 ≤ t.size := by omega
    rw [h2]
    go_enter Try.func82, Try.ntmps82
    go_wp2
    go_ret
    exact ⟨by first | rfl | simp, rfl⟩

end Go.Proofs.Ytoahjigjlgcjkaa.X
namespace Go.Proofs.Ytoahjigjlgcjkaa.X
open Go.RowKit Go.Proofs.YtoahjigjlgcjkaaW.PrintWords Go.Proofs.YtoahjigjlgcjkaaW.PrintLast Go.Proofs.YtoahjigjlgcjkaaW.PrintMore
attribute [local go_sem] max2_int min2_int max_two min_two
set_option linter.unusedVariables false
set_option linter.unusedSimpArgs false

open Go.Proofs.YtoahjigjlgcjkaaY
set_option maxRecDepth 100000
/-- A text without the nought behind it. -/
def cutZ (s : ByteArray) : ByteArray := if endsZ s = true then s.extract 0 (s.size - 1) else s
set_option maxHeartbeats 1600000 in
theorem CutSuffixL_z.at_ (s : ByteArray) (hs : s.size ≤ 9223372036854775807) (w : World) :
    Calls Try.prog 83 #[.string s, .string ⟨#[0]⟩] w fun e w' => e = .returned (.tuple #[.string (cutZ s), .bool (endsZ s)]) ∧ w = w' := by
  have hh := fun W => HasSuffix_z.at_ s hs W
  have hz : endsZ s = true → 1 ≤ s.size := fun h => by
    unfold endsZ at h
    rw [Bool.and_eq_true, decide_eq_true_eq] at h
    exact h.1
  unfold cutZ
  cases he : endsZ s with
  | false =>
    rw [he] at hh
    rw [if_neg (by decide)]
    clear he hz
    go_enter Try.func83, Try.ntmps83
    go_wp2_with (first | (go_at_call 95; refine (hh _).mono ?_; rintro e w1 ⟨rfl, rfl⟩))
    go_ret2
    exact ⟨rfl, rfl⟩
  | true =>
    rw [he] at hh
    rw [if_pos rfl]
    have h1 := hz he
    have hw : IntKind.i64.wrap ((s.size : Int) - 1) = ((s.size - 1 : Nat) : Int) := by rw [i64_w]; unfold wrap64; omega
    have hb : s.size - 1 ≤ s.size := by omega
    generalize s.size - 1 = m at *
    clear he hz
    go_enter Try.func83, Try.ntmps83
    go_wp2_with (first | (go_at_call 95; refine (hh _).mono ?_; rintro e w1 ⟨rfl, rfl⟩))
    go_ret2
    exact ⟨rfl, rfl⟩
end Go.Proofs.Ytoahjigjlgcjkaa.X
namespace Go.Proofs.Ytoahjigjlgcjkaa.X
open Go.RowKit Go.Proofs.YtoahjigjlgcjkaaW.PrintWords Go.Proofs.YtoahjigjlgcjkaaW.PrintLast Go.Proofs.YtoahjigjlgcjkaaW.PrintMore
attribute [local go_sem] max2_int min2_int max_two min_two
set_option linter.unusedVariables false
set_option linter.unusedSimpArgs false

open Go.Proofs.YtoahjigjlgcjkaaY
set_option maxRecDepth 100000
theorem CutSuffix_z.at_ (s : ByteArray) (hs : s.size ≤ 9223372036854775807) (w : World) :
    Calls Try.prog 51 #[.string s, .string ⟨#[0]⟩] w fun e w' => e = .returned (.tuple #[.string (cutZ s), .bool (endsZ s)]) ∧ w = w' := by
  have hh := fun W => CutSuffixL_z.at_ s hs W
  go_enter Try.func51, Try.ntmps51
  go_wp2_with (first | (go_at_call 83; refine (hh _).mono ?_; rintro e w1 ⟨rfl, rfl⟩))
  go_ret2
  exact ⟨rfl, rfl⟩
end Go.Proofs.Ytoahjigjlgcjkaa.X
