/- Layer 6, plainly: what the functions of package tree compute. -/
import Derived.Test.YtklbnfpjjcidiaaXK
import Derived.Test.YtklbnfpjjcidiaaXGtree
import Derived.Test.YtklbnfpjjcidiaaXGtree
import Derived.Test.YtklbnfpjjcidiaaXreelkeeperlaw06Few
import Derived.Test.YtklbnfpjjcidiaaXGpath
import Derived.Test.YtklbnfpjjcidiaaYAll
import Derived.Test.YtklbnfpjjcidiaaYAll
import Derived.Test.YtklbnfpjjcidiaaPGA
import Derived.Test.YtklbnfpjjcidiaaPGA
import Derived.Test.YtklbnfpjjcidiaaP02p
namespace Go.Proofs.Ytklbnfpjjcidiaa.X
open Go.RowKit Go.Proofs.YtklbnfpjjcidiaaW.PrintWords Go.Proofs.YtklbnfpjjcidiaaW.PrintLast Go.Proofs.YtklbnfpjjcidiaaW.PrintMore
attribute [local go_sem] max2_int min2_int max_two min_two
set_option linter.unusedVariables false
set_option linter.unusedSimpArgs false

open Go.Proofs.YtklbnfpjjcidiaaY
theorem rd_at {l : List Nd} {i : Nat} (h : i < l.length) : rd_T26 l (i : Int) = l[i] := by unfold rd_T26; simp [List.getD, List.getElem?_eq_getElem h]
def fewL (l : List Nd) : Bool := decide (l.length ≤ 30) && l.all okN
theorem few_loop (l : List Nd) : ∀ (d i : Nat), i + d = 31 → i ≤ l.length → (l.take i).all okN = true → Ev (fun k => reelkeeperlaw06_Few.l0 k l (i : Int)) (fewL l) := by
  intro d
  induction d with
  | zero =>
    intro i hi hl ha
    refine Ev.step (fun _ => rfl) ?_
    simp only [reelkeeperlaw06_Few.l0]
    have hf : fewL l = decide ((l.length : Int) ≤ 30) := by
      unfold fewL
      rw [decide_eq_false (by omega), decide_eq_false (by omega)]
      rfl
    by_cases h : (i : Int) < (l.length : Int)
    · simp only [if_pos h]
      refine Ev.step (fun _ => rfl) ?_
      simp only [reelkeeperlaw06_Few.j1]
      refine Ev.if_neg (by simp; omega) ?_
      rw [hf]
      exact Ev.now _
    · simp only [if_neg h]
      refine Ev.step (fun _ => rfl) ?_
      simp only [reelkeeperlaw06_Few.j1]
      simp only [Bool.false_eq_true, if_false]
      rw [hf]
      exact Ev.now _
  | succ d ih =>
    intro i hi hl ha
    refine Ev.step (fun _ => rfl) ?_
    simp only [reelkeeperlaw06_Few.l0]
    by_cases h : (i : Int) < (l.length : Int)
    · have hlt : i < l.length := by omega
      simp only [if_pos h]
      refine Ev.step (fun _ => rfl) ?_
      simp only [reelkeeperlaw06_Few.j1]
      refine Ev.if_pos (by simp; omega) ?_
      simp only [if_pos (show (0 : Int) ≤ (i : Int) by omega), if_pos h, rd_at hlt, few5, Option.bind_some]
      cases ho : okN l[i] with
      | false =>
        simp only [Bool.false_eq_true, if_false]
        have hf : fewL l = false := by
          unfold fewL
          rw [Bool.and_eq_false_iff]
          refine .inr ?_
          rw [List.all_eq_false]
          exact ⟨l[i], List.getElem_mem hlt, by rw [ho]; decide⟩
        rw [hf]
        exact Ev.now _
      | true =>
        simp only [if_true]
        have hw : wrap64 ((i : Int) + 1) = ((i + 1 : Nat) : Int) := by rw [wrap_id (by omega) (by omega)]; omega
        rw [hw]
        refine ih (i + 1) (by omega) (by omega) ?_
        rw [List.take_succ_eq_append_getElem hlt, List.all_append, ha]
        simp [ho]
    · simp only [if_neg h]
      refine Ev.step (fun _ => rfl) ?_
      simp only [reelkeeperlaw06_Few.j1]
      simp only [Bool.false_eq_true, if_false]
      have e : l.take i = l := List.take_of_length_le (by omega)
      have hf : fewL l = decide ((l.length : Int) ≤ 30) := by
        unfold fewL
        rw [e] at ha
        rw [ha, Bool.and_true]
        congr 1
        exact propext ⟨fun _ => by omega, fun _ => by omega⟩
      rw [hf]
      exact Ev.now _
theorem few_ev (l : List Nd) : Ev (fun k => reelkeeperlaw06_Few.f k l) (fewL l) := few_loop l 31 0 rfl (Nat.zero_le _) (by simp)
theorem fewL_iff {l : List Nd} : fewL l = true ↔ l.length ≤ 30 ∧ ∀ n ∈ l, okN n = true := by simp [fewL, List.all_eq_true]

/-- May it be alone? -/
def one (n : Nd) : Bool := (tree_One.f n.f0 n.f1 n.f2 n.f3 n.f4 n.f5 n.f6 n.f7).getD false
theorem one_f {n : Nd} (h : okN n = true) : tree_One.f n.f0 n.f1 n.f2 n.f3 n.f4 n.f5 n.f6 n.f7 = some (one n) := by
  obtain ⟨h0, h1, _⟩ := okN_iff.1 h
  have : ∃ o, tree_One.f n.f0 n.f1 n.f2 n.f3 n.f4 n.f5 n.f6 n.f7 = some o := by
    have hm0 : path_May.f n.f0 = some _ := may_f (by omega)
    have hm1 : path_May.f n.f1 = some _ := may_f (by omega)
    have hq : ∃ q, tree_One.ask n.f0 n.f1 n.f2 n.f3 n.f4 n.f5 n.f6 n.f7 = some q := by
      unfold tree_One.ask
      split
      · unfold tree_kinds_1.f
        split
        · exact ⟨_, rfl⟩
        · exact ⟨_, rfl⟩
      · split
        · unfold tree_kinds_2.f
          split
          · exact ⟨_, hm1⟩
          · exact ⟨_, rfl⟩
        · split
          · have ht : ∃ t, long_Text.f n.f1 = some t := by
              unfold long_Text.f strings_IndexByte.f
              split
              · exact ⟨_, rfl⟩
              · split
                · exact ⟨_, rfl⟩
                · exact ⟨_, rfl⟩
            obtain ⟨t, ht⟩ := ht
            unfold tree_kinds_3.f
            rw [ht]
            cases t <;> exact ⟨_, rfl⟩
          · split
            · unfold tree_kinds_4.f
              split
              · exact ⟨_, rfl⟩
              · exact ⟨_, rfl⟩
            · exact ⟨_, rfl⟩
    obtain ⟨q, hq⟩ := hq
    unfold tree_One.f
    rw [hq, hm0]
    exact ⟨_, rfl⟩
  obtain ⟨o, ho⟩ := this
  unfold one
  rw [ho]
  rfl
/-- The parent. -/
noncomputable def parentOf (s : ByteArray) : ByteArray × Bool := if h : s.size ≤ 9223372036854775807 then Classical.choose (parent_ev s h) else (⟨#[]⟩, false)
theorem parentOf_ev {s : ByteArray} (h : s.size ≤ 9223372036854775807) : Ev (fun k => path_Parent.f k s) (parentOf s) ∧ IsParent s (parentOf s) := by
  unfold parentOf
  rw [dif_pos h]
  exact Classical.choose_spec (parent_ev s h)
noncomputable def step (pre : List Nd) (last : ByteArray) (n : Nd) : Bool := one n && (!(Op.bytesLess n.f0.toList last.toList || n.f0.toList == last.toList) && (!((parentOf n.f0).2 && !(seen pre (parentOf n.f0).1 == 53)) && !(n.f2 == 49 && !(seen pre n.f1 == 48))))
noncomputable def mayT : List Nd → ByteArray → List Nd → Bool
  | _, _, [] => true
  | pre, last, n :: t => step pre last n && mayT (pre ++ [n]) n.f0 t
theorem may_go : ∀ (l pre : List Nd) (last : ByteArray), (∀ n ∈ l, okN n = true) → Ev (fun k => tree_May.go k pre last l) (mayT pre last l)
  | [], pre, last, _ => by
    refine Ev.of_eq fun k => ?_
    unfold tree_May.go mayT
    rfl
  | n :: t, pre, last, h => by
    have hn := h n (.head _)
    have ih := may_go t (pre ++ [n]) n.f0 (fun x hx => h x (.tail _ hx))
    refine Ev.congr (fun k => by unfold tree_May.go; rfl) ?_
    unfold mayT step
    refine Ev.bind (Ev.of_eq fun _ => one_f hn) ?_
    cases ho : one n with
    | false => exact Ev.if_neg (by decide) (Ev.now _)
    | true =>
      refine Ev.if_pos rfl ?_
      cases hl : (Op.bytesLess n.f0.toList last.toList || n.f0.toList == last.toList) with
      | true => exact Ev.if_pos rfl (Ev.now _)
      | false =>
        refine Ev.if_neg (by decide) ?_
        refine Ev.bind (parentOf_ev (by have := (okN_iff.1 hn).1; omega)).1 ?_
        cases hc : ((parentOf n.f0).2 && !(seen pre (parentOf n.f0).1 == 53)) with
        | true => exact Ev.if_pos rfl (Ev.now _)
        | false =>
          refine Ev.if_neg (by decide) ?_
          cases hk : (n.f2 == 49 && !(seen pre n.f1 == 48)) with
          | true => exact Ev.if_pos rfl (Ev.now _)
          | false => exact Ev.if_neg (by decide) ih
noncomputable def mayF (l : List Nd) : Bool := decide (l.length ≤ 20) && mayT [] ⟨#[]⟩ l
theorem may_ev {l : List Nd} (h : ∀ n ∈ l, okN n = true) : Ev (fun k => tree_May.f k l) (mayF l) := by
  unfold tree_May.f mayF
  by_cases hl : l.length ≤ 20
  · rw [decide_eq_true hl, Bool.true_and]
    exact Ev.if_neg (by omega) (may_go l [] _ h)
  · rw [decide_eq_false hl, Bool.false_and]
    exact Ev.if_pos (by omega) (Ev.now _)

end Go.Proofs.Ytklbnfpjjcidiaa.X
