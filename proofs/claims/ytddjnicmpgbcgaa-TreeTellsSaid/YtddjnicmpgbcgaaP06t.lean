/- The statement TreeTells, plainly. -/
import Derived.Test.YtddjnicmpgbcgaaXK
import Derived.Test.YtddjnicmpgbcgaaXreelkeeperlaw06TreeTells
import Derived.Test.YtddjnicmpgbcgaaXGreelkeeperref062
import Derived.Test.YtddjnicmpgbcgaaYPath
import Derived.Test.YtddjnicmpgbcgaaYBytes
import Derived.Test.YtddjnicmpgbcgaaP02m
import Derived.Test.YtddjnicmpgbcgaaP02r
import Derived.Test.YtddjnicmpgbcgaaP06a
import Derived.Test.YtddjnicmpgbcgaaP06b
import Derived.Test.YtddjnicmpgbcgaaP06c
import Derived.Test.YtddjnicmpgbcgaaP06r
import Derived.Test.YtddjnicmpgbcgaaP06s
namespace Go.Proofs.Ytddjnicmpgbcgaa.X
open Go.RowKit Go.Proofs.YtddjnicmpgbcgaaW.PrintWords Go.Proofs.YtddjnicmpgbcgaaW.PrintLast Go.Proofs.YtddjnicmpgbcgaaW.PrintMore
attribute [local go_sem] max2_int min2_int max_two min_two max_three min_three max_four min_four
set_option linter.unusedVariables false
set_option linter.unusedSimpArgs false

open Go.Proofs.YtddjnicmpgbcgaaY
noncomputable def mayI (l : List Nd) (i : Nat) : Bool := mayT (l.take i) (if i = 0 then ⟨#[]⟩ else (rd_T23 l ((i - 1 : Nat) : Int)).f0) (l.drop i)
theorem mayI_end {l : List Nd} {i : Nat} (h : l.length ≤ i) : mayI l i = true := by unfold mayI; rw [List.drop_of_length_le h]; rfl
theorem mayI_step {l : List Nd} {i : Nat} (h : i < l.length) : mayI l i = (step (l.take i) (if i = 0 then ⟨#[]⟩ else (rd_T23 l ((i - 1 : Nat) : Int)).f0) l[i] && mayI l (i + 1)) := by
  unfold mayI
  rw [List.drop_eq_getElem_cons h, mayT]
  congr 1
  rw [if_neg (by omega), List.take_succ_eq_append_getElem h, Nat.add_sub_cancel, rd_at h]
theorem less_empty (s : ByteArray) (h : s.data.toList ≠ []) : Op.bytesLess (⟨#[]⟩ : ByteArray).toList s.toList = true := by
  rw [Lib.toList_data, Lib.toList_data]
  cases hs : s.data.toList with
  | nil => exact absurd hs h
  | cons c t => rfl
theorem ref_may6_loop (l : List Nd) (hl : l.length ≤ 20) (hok : ∀ n ∈ l, okN n = true) : ∀ (d i : Nat), i + d = l.length → Ev (fun k => reelkeeperref06_May.l0 k l (i : Int)) (mayI l i) := by
  intro d
  induction d with
  | zero =>
    intro i hi
    refine Ev.step (fun _ => rfl) ?_
    simp only [reelkeeperref06_May.l0]
    refine Ev.if_neg (by omega) ?_
    rw [mayI_end (by omega)]
    exact Ev.now _
  | succ d ih =>
    intro i hi
    have hlt : i < l.length := by omega
    have hn := hok _ (List.getElem_mem hlt)
    have hsz := okN_iff.1 hn
    refine Ev.step (fun _ => rfl) ?_
    simp only [reelkeeperref06_May.l0]
    refine Ev.if_pos (by omega) ?_
    refine Ev.if_pos (by omega) ?_
    simp only [rd_at hlt]
    refine Ev.bind (ref_one hn) ?_
    rw [mayI_step hlt]
    generalize hlast : (if i = 0 then (⟨#[]⟩ : ByteArray) else (rd_T23 l ((i - 1 : Nat) : Int)).f0) = last
    have hw1 : wrap64 ((i : Int) + 1) = ((i + 1 : Nat) : Int) := by rw [wrap_id (by omega) (by omega)]; omega
    -- the join
    have join : one l[i] = true → Ev (fun k => reelkeeperref06_May.j1 k l (i : Int) (!(Op.bytesLess last.toList l[i].f0.toList))) (step (l.take i) last l[i] && mayI l (i + 1)) := by
      intro ho
      refine Ev.step (fun _ => rfl) ?_
      simp only [reelkeeperref06_May.j1]
      unfold step
      rw [leq_less, Bool.not_not, ho, Bool.true_and]
      cases hb : Op.bytesLess last.toList l[i].f0.toList with
      | false => refine Ev.if_pos rfl ?_; exact Ev.now _
      | true =>
      refine Ev.if_neg (by decide) ?_
      refine Ev.if_pos (by omega) ?_
      refine Ev.if_pos (by omega) ?_
      simp only [rd_at hlt]
      obtain ⟨r, hr, hp⟩ := ref_parent l[i].f0 (by omega)
      have hr2 : r = parentOf l[i].f0 := hp.unique (parentOf_ev (by omega)).2
      subst hr2
      refine Ev.bind hr ?_
      refine Ev.if_pos (by omega) ?_
      have ht : (l.take ((i : Int)).toNat) = l.take i := by rw [Int.toNat_natCast]
      rw [ht]
      have hlen : (l.take i).length ≤ 30 := by rw [List.length_take]; omega
      refine Ev.bind (ref_has _ hlen _ 53 (by decide)) ?_
      refine Ev.bind (ref_has _ hlen _ 48 (by decide)) ?_
      rw [hw1]
      have ih2 := ih (i + 1) (by omega)
      have tailE : ∀ (b : Bool), Ev (fun k => if l[i].f2 = 49 then (if b = true then reelkeeperref06_May.l0 k l ((i + 1 : Nat) : Int) else some false) else reelkeeperref06_May.l0 k l ((i + 1 : Nat) : Int)) (!(l[i].f2 == 49 && !b) && mayI l (i + 1)) := by
        intro b
        by_cases hk : l[i].f2 = 49
        · refine Ev.if_pos hk ?_
          rw [beq_iff_eq.2 hk]
          cases b with
          | true => exact Ev.if_pos rfl ih2
          | false => exact Ev.if_neg (by decide) (Ev.now _)
        · refine Ev.if_neg hk ?_
          rw [beq_eq_false_iff_ne.2 hk]
          exact ih2
      have tl := tailE (seen (l.take i) l[i].f1 == 48)
      cases his : (parentOf l[i].f0).2 with
      | false =>
        refine Ev.if_neg (by decide) ?_
        simpa using tl
      | true =>
        refine Ev.if_pos rfl ?_
        cases hdir : (seen (l.take i) (parentOf l[i].f0).1 == 53) with
        | false => refine Ev.if_neg (by decide) ?_; exact Ev.now _
        | true =>
          refine Ev.if_pos rfl ?_
          simpa using tl
    cases ho : one l[i] with
    | false =>
      refine Ev.if_neg (by decide) ?_
      have : step (l.take i) last l[i] = false := by unfold step; rw [ho, Bool.false_and]
      rw [this, Bool.false_and]
      refine Ev.step (fun _ => rfl) ?_
      simp only [reelkeeperref06_May.j1, if_true]
      exact Ev.now _
    | true =>
      refine Ev.if_pos rfl ?_
      have jn := join ho
      by_cases hi0 : i = 0
      · refine Ev.if_neg (by omega) ?_
        have hne := less_empty l[i].f0 (mayL_ne (one_may hn ho))
        rw [if_pos hi0] at hlast
        rw [← hlast, hne, Bool.not_true] at jn
        rw [← hlast]
        exact jn
      · have hw : wrap64 ((i : Int) - 1) = ((i - 1 : Nat) : Int) := by rw [wrap_id (by omega) (by omega)]; omega
        rw [hw]
        refine Ev.if_pos (by omega) ?_
        refine Ev.if_pos (by omega) ?_
        refine Ev.if_pos (by omega) ?_
        rw [if_neg hi0] at hlast
        rw [hlast]
        exact jn
theorem ref_may6 {l : List Nd} (hok : ∀ n ∈ l, okN n = true) : Ev (fun k => reelkeeperref06_May.f k l) (mayF l) := by
  unfold reelkeeperref06_May.f mayF
  by_cases hl : l.length ≤ 20
  · rw [decide_eq_true hl, Bool.true_and]
    refine Ev.if_neg (by omega) ?_
    have := ref_may6_loop l hl hok l.length 0 (by omega)
    unfold mayI at this
    simpa using this
  · rw [decide_eq_false hl, Bool.false_and]
    exact Ev.if_pos (by omega) (Ev.now _)
theorem tells_up (a0 : ByteArray) (a1 : ByteArray) (a2 a3 a4 a5 a6 : Int) (a7 : ByteArray) (l m : List Nd) (p : ByteArray) : Ev (fun n => reelkeeperlaw06_TreeTells.j0 n l m p true true a0 a1 a2 a3 a4 a5 a6 a7) true := by
  refine Ev.step (fun _ => rfl) ?_
  simp only [reelkeeperlaw06_TreeTells.j0, if_true]
  exact Ev.now _
theorem TreeTells_told (n : Nd) (l m : List Nd) (p : ByteArray) : ∃ k, reelkeeperlaw06_TreeTells.f k n.f0 n.f1 n.f2 n.f3 n.f4 n.f5 n.f6 n.f7 l m p = some true := by
  refine Ev.rounds ?_
  unfold reelkeeperlaw06_TreeTells.f
  refine Ev.bind awake6_ev ?_
  refine Ev.bind (Ev.of_eq fun _ => few5 n) ?_
  refine Ev.bind (few_ev l) ?_
  refine Ev.bind (few_ev m) ?_
  refine Ev.if_pos rfl ?_
  cases hn : okN n with
  | false => exact Ev.if_neg (by decide) (tells_up ..)
  | true =>
  refine Ev.if_pos rfl ?_
  cases hf : fewL l with
  | false => exact Ev.if_neg (by decide) (tells_up ..)
  | true =>
  refine Ev.if_pos rfl ?_
  cases hg : fewL m with
  | false => exact Ev.if_neg (by decide) (tells_up ..)
  | true =>
  refine Ev.if_pos rfl ?_
  obtain ⟨hl, hok⟩ := fewL_iff.1 hf
  obtain ⟨hml, hmok⟩ := fewL_iff.1 hg
  by_cases hp : (p.size : Int) > 400
  · rw [decide_eq_true hp]; exact tells_up ..
  rw [decide_eq_false hp]
  refine Ev.step (fun _ => rfl) ?_
  simp only [reelkeeperlaw06_TreeTells.j0]
  refine Ev.if_neg (by decide) ?_
  refine Ev.bind (ref_one hn) ?_
  refine Ev.bind (ref_may6 hok) ?_
  refine Ev.bind (ref_same l m hl) ?_
  refine Ev.bind (Ev.of_eq fun _ => under_f hl hok (by omega)) ?_
  refine Ev.bind (ref_under l hl hok (by omega)) ?_
  have hul : (under l p).length ≤ 30 := by
    have := List.length_filter_le (fun x => bel x p) l
    unfold under
    omega
  refine Ev.bind (ref_same (under l p) (under l p) hul) ?_
  refine Ev.bind (Ev.of_eq fun _ => one_f hn) ?_
  refine Ev.if_pos (by simp) ?_
  refine Ev.bind (may_ev hok) ?_
  refine Ev.if_pos (by simp) ?_
  refine Ev.bind (same_ev l m hl) ?_
  refine Ev.if_pos (by simp) ?_
  have hss : sameB (under l p) (under l p) = true := by
    unfold sameB
    rw [if_pos rfl]
    have : ∀ (a : List Nd) (d i : Nat), eqFrom a a d i = true := by
      intro a d
      induction d with
      | zero => intro i; rfl
      | succ d ih =>
        intro i
        unfold eqFrom
        rw [if_neg (by simp [neB]), ih]
    exact this _ _ _
  rw [hss]
  refine Ev.if_pos rfl ?_
  refine Ev.bind (Ev.of_eq fun _ => rfl) ?_
  refine Ev.bind (ref_find l hl p) ?_
  rw [beq_self_eq_true]
  exact Ev.now _

end Go.Proofs.Ytddjnicmpgbcgaa.X
