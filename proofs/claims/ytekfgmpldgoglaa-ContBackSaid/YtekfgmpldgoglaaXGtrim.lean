import Derived.Test.YtekfgmpldgoglaaXK
import Derived.Test.YtekfgmpldgoglaaYAll
import Derived.Laws.EntriesVeiled
import Derived.WalkSpells
namespace Go.Proofs.Ytekfgmpldgoglaa.X
open Go.RowKit Go.Proofs.YtekfgmpldgoglaaW.PrintWords Go.Proofs.YtekfgmpldgoglaaW.PrintLast Go.Proofs.YtekfgmpldgoglaaW.PrintMore
attribute [local go_sem] max2_int min2_int max_two min_two
set_option linter.unusedVariables false
set_option linter.unusedSimpArgs false

/-- Does a text end in a nought? -/
def endsZ (s : ByteArray) : Bool := decide (1 ≤ s.size) && ((s.extract (s.size - 1) s.size).toList == [0])
set_option maxRecDepth 100000 in
set_option maxHeartbeats 1600000 in
theorem HasSuffix_z.at_ (s : ByteArray) (hs : s.size ≤ 9223372036854775807) (w : World) :
    Calls Try.prog 106 #[.string s, .string ⟨#[0]⟩] w fun e w' => e = .returned (.bool (endsZ s)) ∧ w = w' := by
  unfold endsZ
  by_cases h : 1 ≤ s.size
  · have h1 : decide ((1 : Int) ≤ (s.size : Int)) = true := decide_eq_true (by omega)
    have h1n : decide (1 ≤ s.size) = true := decide_eq_true h
    have hw : IntKind.i64.wrap ((s.size : Int) - 1) = ((s.size - 1 : Nat) : Int) := by rw [i64_w]; unfold wrap64; omega
    have hb : s.size - 1 ≤ s.size := by omega
    rw [h1n]
    generalize s.size - 1 = m at *
    go_enter Try.func106, Try.ntmps106
    go_wp2
    go_ret
    exact ⟨by simp, rfl⟩
  · have h1 : decide ((1 : Int) ≤ (s.size : Int)) = false := decide_eq_false (by omega)
    have h1n : decide (1 ≤ s.size) = false := decide_eq_false h
    rw [h1n]
    go_enter Try.func106, Try.ntmps106
    go_wp2
    go_ret
    exact ⟨by simp, rfl⟩
end Go.Proofs.Ytekfgmpldgoglaa.X
namespace Go.Proofs.Ytekfgmpldgoglaa.X
open Go.RowKit Go.Proofs.YtekfgmpldgoglaaW.PrintWords Go.Proofs.YtekfgmpldgoglaaW.PrintLast Go.Proofs.YtekfgmpldgoglaaW.PrintMore
attribute [local go_sem] max2_int min2_int max_two min_two
set_option linter.unusedVariables false
set_option linter.unusedSimpArgs false

/-- A text without the nought behind it. -/
def trimZ (s : ByteArray) : ByteArray := if endsZ s = true then s.extract 0 (s.size - 1) else s
set_option maxRecDepth 100000 in
set_option maxHeartbeats 1600000 in
theorem TrimSuffixL_z.at_ (s : ByteArray) (hs : s.size ≤ 9223372036854775807) (w : World) :
    Calls Try.prog 72 #[.string s, .string ⟨#[0]⟩] w fun e w' => e = .returned (.string (trimZ s)) ∧ w = w' := by
  have hh := fun W => HasSuffix_z.at_ s hs W
  have hz : endsZ s = true → 1 ≤ s.size := fun h => by
    unfold endsZ at h
    rw [Bool.and_eq_true, decide_eq_true_eq] at h
    exact h.1
  unfold trimZ
  cases he : endsZ s with
  | false =>
    rw [he] at hh
    rw [if_neg (by decide)]
    clear he hz
    go_enter Try.func72, Try.ntmps72
    go_wp2_with (first | (go_at_call 106; refine (hh _).mono ?_; rintro e w1 ⟨rfl, rfl⟩))
    go_ret
    exact ⟨rfl, rfl⟩
  | true =>
    rw [he] at hh
    rw [if_pos rfl]
    have h1 := hz he
    have hw : IntKind.i64.wrap ((s.size : Int) - 1) = ((s.size - 1 : Nat) : Int) := by rw [i64_w]; unfold wrap64; omega
    have hb : s.size - 1 ≤ s.size := by omega
    generalize s.size - 1 = m at *
    clear he hz
    go_enter Try.func72, Try.ntmps72
    go_wp2_with (first | (go_at_call 106; refine (hh _).mono ?_; rintro e w1 ⟨rfl, rfl⟩))
    go_ret
    exact ⟨rfl, rfl⟩
end Go.Proofs.Ytekfgmpldgoglaa.X
namespace Go.Proofs.Ytekfgmpldgoglaa.X
open Go.RowKit Go.Proofs.YtekfgmpldgoglaaW.PrintWords Go.Proofs.YtekfgmpldgoglaaW.PrintLast Go.Proofs.YtekfgmpldgoglaaW.PrintMore
attribute [local go_sem] max2_int min2_int max_two min_two
set_option linter.unusedVariables false
set_option linter.unusedSimpArgs false

set_option maxRecDepth 100000 in
theorem TrimSuffix_z.at_ (s : ByteArray) (hs : s.size ≤ 9223372036854775807) (w : World) :
    Calls Try.prog 38 #[.string s, .string ⟨#[0]⟩] w fun e w' => e = .returned (.string (trimZ s)) ∧ w = w' := by
  have hh := fun W => TrimSuffixL_z.at_ s hs W
  go_enter Try.func38, Try.ntmps38
  go_wp2_with (first | (go_at_call 72; refine (hh _).mono ?_; rintro e w1 ⟨rfl, rfl⟩))
  go_ret
  exact ⟨rfl, rfl⟩

end Go.Proofs.Ytekfgmpldgoglaa.X
