/- Lists of what is told, compared, plainly; what a run leaves. -/
import Derived.Test.YtoahjigjlgcjkaaXK
import Derived.Test.YtoahjigjlgcjkaaXGpj
import Derived.Test.YtoahjigjlgcjkaaXparseSame
import Derived.Test.YtoahjigjlgcjkaaXGslices
import Derived.Test.YtoahjigjlgcjkaaYAll
import Derived.Test.YtoahjigjlgcjkaaYAll
import Derived.Test.YtoahjigjlgcjkaaYAll
import Derived.Test.YtoahjigjlgcjkaaYAll
import Derived.Test.YtoahjigjlgcjkaaPGA
import Derived.Test.YtoahjigjlgcjkaaPGA
import Derived.Test.YtoahjigjlgcjkaaPGA
import Derived.Test.YtoahjigjlgcjkaaPGA
import Derived.Test.YtoahjigjlgcjkaaPGA
import Derived.Test.YtoahjigjlgcjkaaPGE
import Derived.Test.YtoahjigjlgcjkaaPGE
import Derived.Test.YtoahjigjlgcjkaaP04g
import Derived.Test.YtoahjigjlgcjkaaP09a
namespace Go.Proofs.Ytoahjigjlgcjkaa.X
open Go.RowKit Go.Proofs.YtoahjigjlgcjkaaW.PrintWords Go.Proofs.YtoahjigjlgcjkaaW.PrintLast Go.Proofs.YtoahjigjlgcjkaaW.PrintMore
attribute [local go_sem] max2_int min2_int max_two min_two
set_option linter.unusedVariables false
set_option linter.unusedSimpArgs false

open Go.Proofs.YtoahjigjlgcjkaaY
theorem ev_self_loop (l : List Evt) (hl : l.length ≤ 1000000) : ∀ (d i : Nat), i + d = l.length → Ev (fun k => slices_Equal_Ev.l0 k l l (l.length : Int) (i : Int)) true := by
  intro d
  induction d with
  | zero =>
    intro i hi
    refine Ev.step (fun _ => rfl) ?_
    simp only [slices_Equal_Ev.l0]
    exact Ev.if_neg (by omega) (Ev.now _)
  | succ d ih =>
    intro i hi
    refine Ev.step (fun _ => rfl) ?_
    simp only [slices_Equal_Ev.l0]
    refine Ev.if_pos (by omega) ?_
    refine Ev.if_pos (by omega) ?_
    refine Ev.if_pos (by omega) ?_
    refine Ev.if_pos (by omega) ?_
    refine Ev.if_neg (by simp) ?_
    have hw : wrap64 ((i : Int) + 1) = ((i + 1 : Nat) : Int) := by rw [wrap_id (by omega) (by omega)]; omega
    rw [hw]
    exact ih (i + 1) (by omega)
theorem ev_self (l : List Evt) (hl : l.length ≤ 1000000) : Ev (fun k => parse_Same.f k l l) true := by
  obtain ⟨K, hK⟩ : Ev (fun k => slices_Equal_Ev.f k l l) true := by
    unfold slices_Equal_Ev.f
    exact Ev.if_pos rfl (ev_self_loop l hl l.length 0 (by omega))
  refine ⟨K, fun k hk => ?_⟩
  have h : slices_Equal_Ev.f k l l = some true := hK k hk
  show parse_Same.f k l l = some true
  unfold parse_Same.f
  rw [h]
  rfl
theorem runP_ok : ∀ (L : List (List Int)) (s : Pst) (all : List Evt) (i : Nat), StOk s → StOk (runP s L all i).1
  | [], s, all, i, hs => hs
  | x :: L, s, all, i, hs => by
    unfold runP
    split
    · split
      · exact (stepR_ok hs).1
      · exact runP_ok L _ _ _ (stepR_ok hs).1
    · exact hs

end Go.Proofs.Ytoahjigjlgcjkaa.X
