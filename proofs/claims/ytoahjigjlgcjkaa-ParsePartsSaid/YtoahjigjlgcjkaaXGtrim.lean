import Derived.Test.YtoahjigjlgcjkaaXK
import Derived.Test.YtoahjigjlgcjkaaYAll
import Derived.Laws.EntriesVeiled
import Derived.WalkSpells
namespace Go.Proofs.Ytoahjigjlgcjkaa.X
open Go.RowKit Go.Proofs.YtoahjigjlgcjkaaW.PrintWords Go.Proofs.YtoahjigjlgcjkaaW.PrintLast Go.Proofs.YtoahjigjlgcjkaaW.PrintMore
attribute [local go_sem] max2_int min2_int max_two min_two
set_option linter.unusedVariables false
set_option linter.unusedSimpArgs false

/-- Does a text end in a nought? -/
def endsZ (s : ByteArray) : Bool := decide (1 ≤ s.size) && ((s.extract (s.size - 1) s.size).toList == [0])
set_option maxRecDepth 100000 in
set_option maxHeartbeats 1600000 in
theorem HasSuffix_z.at_ (s : ByteArray) (hs : s.size ≤ 9223372036854775807) (w : World) :
    Calls Try.prog 95 #[.string s, .string ⟨#[0]⟩] w fun e w' => e = .returned (.bool (endsZ s)) ∧ w = w' := by
  unfold endsZ
  by_cases h : 1 ≤ s.size
  · have h1 : decide ((1 : Int) ≤ (s.size : Int)) = true := decide_eq_true (by omega)
    have h1n : decide (1 ≤ s.size) = true := decide_eq_true h
    have hw : IntKind.i64.wrap ((s.size : Int) - 1) = ((s.size - 1 : Nat) : Int) := by rw [i64_w]; unfold wrap64; omega
    have hb : s.size - 1 ≤ s.size := by omega
    rw [h1n]
    generalize s.size - 1 = m at *
    go_enter Try.func95, Try.ntmps95
    go_wp2
    go_ret
    exact ⟨by simp, rfl⟩
  · have h1 : decide ((1 : Int) ≤ (s.size : Int)) = false := decide_eq_false (by omega)
    have h1n : decide (1 ≤ s.size) = false := decide_eq_false h
    rw [h1n]
    go_enter Try.func95, Try.ntmps95
    go_wp2
    go_ret
    exact ⟨by simp, rfl⟩
end Go.Proofs.Ytoahjigjlgcjkaa.X
