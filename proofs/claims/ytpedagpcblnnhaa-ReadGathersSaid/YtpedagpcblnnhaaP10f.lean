/- Few events, plainly. -/
import Derived.Test.YtpedagpcblnnhaaXK
import Derived.Test.YtpedagpcblnnhaaXreelkeeperlaw10FewEvs
import Derived.Test.YtpedagpcblnnhaaXreelkeeperlaw05Few
import Derived.Test.YtpedagpcblnnhaaXGpj
import Derived.Test.YtpedagpcblnnhaaYAll
import Derived.Test.YtpedagpcblnnhaaYAll
import Derived.Test.YtpedagpcblnnhaaYAll
import Derived.Test.YtpedagpcblnnhaaYAll
import Derived.Test.YtpedagpcblnnhaaPGA
import Derived.Test.YtpedagpcblnnhaaPGA
import Derived.Test.YtpedagpcblnnhaaPGA
import Derived.Test.YtpedagpcblnnhaaPGA
import Derived.Test.YtpedagpcblnnhaaPGA
import Derived.Test.YtpedagpcblnnhaaPGE
import Derived.Test.YtpedagpcblnnhaaPGE
import Derived.Test.YtpedagpcblnnhaaP04g
import Derived.Test.YtpedagpcblnnhaaP09a
namespace Go.Proofs.Ytpedagpcblnnhaa.X
open Go.RowKit Go.Proofs.YtpedagpcblnnhaaW.PrintWords Go.Proofs.YtpedagpcblnnhaaW.PrintLast Go.Proofs.YtpedagpcblnnhaaW.PrintMore
attribute [local go_sem] max2_int min2_int max_two min_two
set_option linter.unusedVariables false
set_option linter.unusedSimpArgs false

open Go.Proofs.YtpedagpcblnnhaaY
theorem fewevs_loop (l : List Evt) : ∀ (d i : Nat), i + d = min l.length 61 → ∃ b, Ev (fun k => reelkeeperlaw10_FewEvs.l0 k l (i : Int)) b ∧ (b = true → l.length ≤ 60 ∧ ∀ j (hj : j < l.length), i ≤ j → okN (l[j]'hj).f1 = true ∧ (l[j]'hj).f2.size ≤ 600) := by
  intro d
  induction d with
  | zero =>
    intro i hi
    by_cases h60 : l.length ≤ 60
    · refine ⟨true, ?_, fun _ => ⟨h60, fun j hj hij => absurd hj (by omega)⟩⟩
      refine Ev.step (fun _ => rfl) ?_
      simp only [reelkeeperlaw10_FewEvs.l0]
      refine Ev.if_neg (by omega) ?_
      refine Ev.step (fun _ => rfl) ?_
      simp only [reelkeeperlaw10_FewEvs.j1]
      refine Ev.if_neg (by decide) ?_
      rw [decide_eq_true (show (l.length : Int) ≤ 60 by omega)]
      exact Ev.now _
    · refine ⟨false, ?_, fun h => nomatch h⟩
      refine Ev.step (fun _ => rfl) ?_
      simp only [reelkeeperlaw10_FewEvs.l0]
      by_cases h61 : (i : Int) < (l.length : Int)
      · refine Ev.if_pos h61 ?_
        refine Ev.step (fun _ => rfl) ?_
        simp only [reelkeeperlaw10_FewEvs.j1]
        refine Ev.if_neg (by rw [decide_eq_true_eq]; omega) ?_
        rw [decide_eq_false (show ¬ (l.length : Int) ≤ 60 by omega)]
        exact Ev.now _
      · refine Ev.if_neg h61 ?_
        refine Ev.step (fun _ => rfl) ?_
        simp only [reelkeeperlaw10_FewEvs.j1]
        refine Ev.if_neg (by decide) ?_
        rw [decide_eq_false (show ¬ (l.length : Int) ≤ 60 by omega)]
        exact Ev.now _
  | succ d ih =>
    intro i hi
    have hlt : i < l.length := by omega
    have hr : rd_T38 l (i : Int) = l[i] := by unfold rd_T38; rw [Int.toNat_natCast, List.getD_eq_getElem?_getD, List.getElem?_eq_getElem hlt]; rfl
    obtain ⟨b, hb, hbt⟩ := ih (i + 1) (by omega)
    have hw : wrap64 ((i : Int) + 1) = ((i + 1 : Nat) : Int) := by rw [wrap_id (by omega) (by omega)]; omega
    have start : ∀ {r : Bool}, Ev (fun k => (reelkeeperlaw05_Few.f l[i].f1.f0 l[i].f1.f1 l[i].f1.f2 l[i].f1.f3 l[i].f1.f4 l[i].f1.f5 l[i].f1.f6 l[i].f1.f7).bind fun t => if t = true then (if (l[i].f2.size : Int) > 600 then some false else reelkeeperlaw10_FewEvs.l0 k l (wrap64 ((i : Int) + 1))) else some false) r → Ev (fun k => reelkeeperlaw10_FewEvs.l0 k l (i : Int)) r := fun h => by
      refine Ev.step (fun _ => rfl) ?_
      simp only [reelkeeperlaw10_FewEvs.l0]
      refine Ev.if_pos (by omega) ?_
      refine Ev.step (fun _ => rfl) ?_
      simp only [reelkeeperlaw10_FewEvs.j1]
      refine Ev.if_pos (by rw [decide_eq_true_eq]; omega) ?_
      refine Ev.if_pos (by omega) ?_
      refine Ev.if_pos (by omega) ?_
      rw [hr]
      exact h
    rw [few5 l[i].f1] at start
    simp only [Option.bind_some, hw] at start
    by_cases ho : okN l[i].f1 = true
    · rw [ho] at start
      by_cases h6 : (l[i].f2.size : Int) > 600
      · exact ⟨false, start (Ev.if_pos rfl (Ev.if_pos h6 (Ev.now _))), fun h => nomatch h⟩
      · refine ⟨b, start (Ev.if_pos rfl (Ev.if_neg h6 hb)), fun h => ⟨(hbt h).1, fun j hj hij => ?_⟩⟩
        by_cases e : j = i
        · subst e; exact ⟨ho, by omega⟩
        · exact (hbt h).2 j hj (by omega)
    · exact ⟨false, start (Ev.if_neg ho (Ev.now _)), fun h => nomatch h⟩
theorem fewevs_ev (l : List Evt) : ∃ b, Ev (fun k => reelkeeperlaw10_FewEvs.f k l) b ∧ (b = true → l.length ≤ 60 ∧ ∀ v ∈ l, v.f1.f7.size ≤ 100000 ∧ v.f2.size ≤ 100000) := by
  obtain ⟨b, hb, hbt⟩ := fewevs_loop l (min l.length 61) 0 (by omega)
  refine ⟨b, hb, fun h => ⟨(hbt h).1, fun v hv => ?_⟩⟩
  obtain ⟨j, hj, rfl⟩ := List.mem_iff_getElem.1 hv
  obtain ⟨h1, h2⟩ := (hbt h).2 j hj (Nat.zero_le _)
  obtain ⟨_, _, h3⟩ := okN_iff.1 h1
  exact ⟨by omega, by omega⟩

end Go.Proofs.Ytpedagpcblnnhaa.X
