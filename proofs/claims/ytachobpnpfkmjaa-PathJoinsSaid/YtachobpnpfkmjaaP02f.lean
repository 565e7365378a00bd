/- Layer 2: the statements of paths, plainly: PathTells, PathSplit, PathParent, PathSafe, PathBelow, PathJoins, PathParts. -/
import Derived.Test.YtachobpnpfkmjaaXK
import Derived.Test.YtachobpnpfkmjaaXreelkeeperlaw02awake
import Derived.Test.YtachobpnpfkmjaaXreelkeeperlaw02PathBelow
import Derived.Test.YtachobpnpfkmjaaXreelkeeperlaw02PathTells
import Derived.Test.YtachobpnpfkmjaaXreelkeeperlaw02PathSplit
import Derived.Test.YtachobpnpfkmjaaYPath
import Derived.Test.YtachobpnpfkmjaaP02a
namespace Go.Proofs.Ytachobpnpfkmjaa.X
open Go.RowKit Go.Proofs.YtachobpnpfkmjaaW.PrintWords Go.Proofs.YtachobpnpfkmjaaW.PrintLast Go.Proofs.YtachobpnpfkmjaaW.PrintMore
attribute [local go_sem] max2_int min2_int max_two min_two max_three min_three max_four min_four
set_option linter.unusedVariables false
set_option linter.unusedSimpArgs false

open Go.Proofs.YtachobpnpfkmjaaY

theorem awake_ev : Ev (fun k => reelkeeperlaw02_awake.f k) true := Ev.of (k := 30) reelkeeperlaw02_awake.mono (by decide +kernel)

theorem below_prefix {p q : List UInt8} (h : belowL p q = true) : ∃ r, p = q ++ 47 :: r := by
  unfold belowL at h
  simp only [Bool.and_eq_true] at h
  obtain ⟨r, hr⟩ := List.isPrefixOf_iff_prefix.1 h.2.2
  exact ⟨r, by rw [← hr]; simp⟩
theorem below_may {p q : List UInt8} (h : belowL p q = true) : mayL p = true ∧ mayL q = true := by
  unfold belowL at h
  simp only [Bool.and_eq_true] at h
  exact ⟨h.1, h.2.1⟩
theorem below_mk {p q r : List UInt8} (hp : mayL p = true) (hq : mayL q = true) (h : p = q ++ 47 :: r) : belowL p q = true := by
  unfold belowL
  rw [hp, hq, Bool.true_and, Bool.true_and]
  exact List.isPrefixOf_iff_prefix.2 ⟨r, by rw [h]; simp⟩
theorem below_self (p : List UInt8) : belowL p p = false := by
  rw [Bool.eq_false_iff]
  intro h
  obtain ⟨r, hr⟩ := below_prefix h
  have := congrArg List.length hr
  simp at this
theorem below_len {p q : List UInt8} (h : belowL p q = true) : q.length < p.length := by
  obtain ⟨r, hr⟩ := below_prefix h
  rw [hr]; simp
theorem below_trans {a b c : List UInt8} (h : belowL a b = true) (k : belowL b c = true) : belowL a c = true := by
  obtain ⟨r, hr⟩ := below_prefix h
  obtain ⟨s, hs⟩ := below_prefix k
  exact below_mk (r := s ++ 47 :: r) (below_may h).1 (below_may k).2 (by rw [hr, hs]; simp)

theorem PathBelow : reelkeeperlaw02_PathBelow.Pure := by
  intro a b c ha hb hc
  refine Ev.rounds ?_
  unfold reelkeeperlaw02_PathBelow.f
  refine Ev.bind awake_ev (Ev.if_pos rfl ?_)
  have hbad : Ev (fun k => reelkeeperlaw02_PathBelow.j0 k a b c true true) true := Ev.step (fun _ => rfl) (by simp only [reelkeeperlaw02_PathBelow.j0]; exact Ev.if_pos trivial (Ev.now _))
  by_cases h1 : (a.size : Int) > 400
  · exact Ev.if_pos h1 hbad
  refine Ev.if_neg h1 ?_
  by_cases h2 : (b.size : Int) > 400
  · exact Ev.if_pos h2 hbad
  refine Ev.if_neg h2 ?_
  by_cases h3 : (c.size : Int) > 400
  · rw [decide_eq_true h3]; exact hbad
  rw [decide_eq_false h3]
  refine Ev.step (fun _ => rfl) ?_
  simp only [reelkeeperlaw02_PathBelow.j0]
  refine Ev.if_neg (by simp) (Ev.of_eq fun k => ?_)
  rw [below_f (a := a) (b := b) (by omega) (by omega), below_f (a := b) (b := c) (by omega) (by omega), below_f (a := a) (b := c) (by omega) (by omega), below_f (a := a) (b := a) (by omega) (by omega), below_f (a := b) (b := a) (by omega) (by omega)]
  simp only [Option.bind_some, below_self, Bool.false_eq_true, if_false]
  have key : belowL a.data.toList b.data.toList = true → belowL b.data.toList a.data.toList = false := fun h => by
    rw [Bool.eq_false_iff]
    intro k
    have := below_len h
    have := below_len k
    omega
  cases hab : belowL a.data.toList b.data.toList
  · simp
  · rw [key hab]
    cases hbc : belowL b.data.toList c.data.toList
    · simp
    · rw [below_trans hab hbc]; simp

theorem PathTells : reelkeeperlaw02_PathTells.Pure := by
  intro p q hp hq
  refine Ev.rounds ?_
  unfold reelkeeperlaw02_PathTells.f
  refine Ev.bind awake_ev (Ev.if_pos rfl ?_)
  have hbad : Ev (fun k => reelkeeperlaw02_PathTells.j0 k p q true true) true := Ev.step (fun _ => rfl) (by simp only [reelkeeperlaw02_PathTells.j0]; exact Ev.if_pos trivial (Ev.now _))
  by_cases h1 : (p.size : Int) > 400
  · exact Ev.if_pos h1 hbad
  refine Ev.if_neg h1 ?_
  by_cases h2 : (q.size : Int) > 400
  · rw [decide_eq_true h2]; exact hbad
  rw [decide_eq_false h2]
  refine Ev.step (fun _ => rfl) ?_
  simp only [reelkeeperlaw02_PathTells.j0]
  refine Ev.if_neg (by simp) ?_
  obtain ⟨r1, e1, i1⟩ := parent_ev p (by omega)
  obtain ⟨r2, e2, i2⟩ := ref_parent p (by omega)
  obtain rfl := i1.unique i2
  refine Ev.bind e1 (Ev.bind e2 ?_)
  rw [split_f p (by omega), parts_f (s := p) (by omega)]
  simp only [Option.bind_some]
  refine Ev.bind (ref_split p (by omega)) (Ev.bind (ref_parts p (by omega)) ?_)
  have hl := splitA_length p
  refine Ev.bind (texts_same (if mayL p.data.toList then splitA p else []) (by split <;> first | omega | exact Nat.zero_le _)) ?_
  refine Ev.bind (ref_may p (by omega)) (Ev.bind (ref_below (a := p) (b := q) (by omega) (by omega)) (Ev.of_eq fun k => ?_))
  rw [may_f (s := p) (by omega), below_f (a := p) (b := q) (by omega) (by omega), ref_join (a := p) (b := q) (by omega), join_f (a := p) (b := q) (by omega)]
  simp

theorem splitR_may {s : ByteArray} (h : (splitR s).2.2 = true) : mayL s.data.toList = true := by
  unfold splitR at h
  cases hm : mayL s.data.toList
  · rw [hm] at h; cases h
  · rfl

/-- What is split is whole with a slash between, or the name alone. -/
theorem splitR_yes {s : ByteArray} (h : (splitR s).2.2 = true) :
    (s.size ≤ 100 ∧ splitR s = (⟨#[]⟩, s, true)) ∨ (100 < s.size ∧ ∃ x y, splitR s = (x, y, true) ∧ s.data.toList = x.data.toList ++ 47 :: y.data.toList ∧ x.size ≤ 155 ∧ y.size ≤ 100) := by
  have hm := splitR_may h
  have hz : s.data.toList.length = s.size := Array.length_toList
  unfold splitR at h ⊢
  rw [hm] at h ⊢
  simp only [if_true] at h ⊢
  by_cases h1 : s.size ≤ 100
  · rw [_root_.if_pos h1] at h ⊢
    exact .inl ⟨h1, rfl⟩
  · rw [_root_.if_neg h1] at h ⊢
    refine .inr ⟨by omega, ?_⟩
    cases hf : slashFrom s.data.toList (s.size - 101) with
    | none => rw [hf] at h; cases h
    | some m =>
      rw [hf] at h
      obtain ⟨hge, hq⟩ := slashFrom_some hf
      have hlt := (List.getElem?_eq_some_iff.1 hq).1
      unfold splitAt at h ⊢
      by_cases h2 : m > 155
      · simp only [h2, if_true] at h; cases h
      · simp only [h2, if_false]
        refine ⟨_, _, rfl, ?_, ?_, ?_⟩
        · have e1 : (s.extract 0 m).data.toList = s.data.toList.take m := by rw [Lib.extract_data]; simp
          rw [e1, Lib.extract_to_end]
          exact list_at hq
        · rw [ByteArray.size_extract]; omega
        · rw [ByteArray.size_extract]; omega

theorem empty_iff (s : ByteArray) : s.data.toList = [] ↔ s = ⟨#[]⟩ := by
  constructor
  · intro h; exact ext_data h
  · rintro rfl; rfl

theorem splitR_no {s : ByteArray} (h : (splitR s).2.2 = false) : splitR s = noSplit ∧ (mayL s.data.toList = false ∨ 100 < s.size) := by
  unfold splitR at h ⊢
  cases hm : mayL s.data.toList
  · exact ⟨rfl, .inl rfl⟩
  · rw [hm] at h
    simp only [if_true] at h ⊢
    by_cases h1 : s.size ≤ 100
    · rw [_root_.if_pos h1] at h; cases h
    · rw [_root_.if_neg h1] at h ⊢
      refine ⟨?_, .inr (by omega)⟩
      cases hf : slashFrom s.data.toList (s.size - 101) with
      | none => rfl
      | some m =>
        rw [hf] at h
        unfold splitAt at h ⊢
        by_cases h2 : m > 155
        · simp only [h2, if_true]
        · simp only [h2, if_false] at h; cases h

theorem PathSplit : reelkeeperlaw02_PathSplit.Pure := by
  intro p hp
  refine Ev.rounds ?_
  unfold reelkeeperlaw02_PathSplit.f
  refine Ev.bind awake_ev (Ev.if_pos rfl ?_)
  by_cases h1 : (p.size : Int) > 400
  · rw [decide_eq_true h1]
    exact Ev.step (fun _ => rfl) (by simp only [reelkeeperlaw02_PathSplit.j0]; exact Ev.if_pos trivial (Ev.now _))
  rw [decide_eq_false h1]
  refine Ev.step (fun _ => rfl) ?_
  simp only [reelkeeperlaw02_PathSplit.j0]
  refine Ev.if_neg (by simp) (Ev.of_eq fun k => ?_)
  rw [split_f p (by omega)]
  simp only [Option.bind_some, Lib.toList_data]
  cases hs : (splitR p).2.2
  · obtain ⟨h2, h3⟩ := splitR_no hs
    rw [h2]
    rw [may_f (s := p) (by omega)]
    rcases h3 with h3 | h3
    · rw [h3]; rfl
    · cases mayL p.data.toList
      · rfl
      · have : (p.size : Int) > 100 := by omega
        simp [noSplit, this]
  · have hm := splitR_may hs
    rw [may_f (s := p) (by omega), hm]
    rcases splitR_yes hs with ⟨h2, h3⟩ | ⟨h2, x, y, h3, h4, h5, h6⟩
    · rw [h3]
      have hne : p.data.toList ≠ [] := mayL_ne hm
      have hj : path_Join.f ⟨#[]⟩ p = some p := join_f (a := ⟨#[]⟩) (b := p) (by show 0 + p.size + 1 ≤ _; omega)
      have h7 : ¬ (p.size : Int) > 100 := by omega
      have h8 : (p.size : Int) ≤ 100 := by omega
      have h9 : ((ByteArray.mk #[]).size : Int) ≤ 155 := by decide
      simp only [if_true, Option.bind_some, hj, h9, h8, hne, if_false, h7]
      rw [may_f (s := p) (by omega), hm]
      rfl
    · rw [h3]
      have hxy : mayL x.data.toList = true ∧ mayL y.data.toList = true := by
        rw [h4, mayL_append] at hm
        simp only [Bool.and_eq_true] at hm
        exact ⟨hm.1.1, hm.1.2⟩
      have hnx : x.data.toList ≠ [] := mayL_ne hxy.1
      have hny : y.data.toList ≠ [] := mayL_ne hxy.2
      have hj : path_Join.f x y = some ((x ++ (⟨#[47]⟩ : ByteArray)) ++ y) := by
        rw [join_f (a := x) (b := y) (by omega), _root_.if_neg hnx]
      have e : ((x ++ (⟨#[47]⟩ : ByteArray)) ++ y).data.toList = p.data.toList := by
        rw [app_data, app_data, h4]; simp
      have h7 : (p.size : Int) > 100 := by omega
      have h8 : (x.size : Int) ≤ 155 := by omega
      have h9 : (y.size : Int) ≤ 100 := by omega
      simp only [if_true, Option.bind_some, hj, e, h8, h9, hny, if_false, h7]
      rw [may_f (s := y) (by omega), hxy.2]
      simp only [if_true, Option.bind_some, hnx, if_false]
      rw [may_f (s := x) (by omega), hxy.1]
      rfl

end Go.Proofs.Ytachobpnpfkmjaa.X
