/- Layer 2: the statements PathParent, PathSafe, PathJoins, PathParts, plainly. -/
import Derived.Test.YtachobpnpfkmjaaXK
import Derived.Test.YtachobpnpfkmjaaXreelkeeperlaw02awake
import Derived.Test.YtachobpnpfkmjaaXreelkeeperlaw02PathParent
import Derived.Test.YtachobpnpfkmjaaXreelkeeperlaw02PathSafe
import Derived.Test.YtachobpnpfkmjaaXreelkeeperlaw02PathJoins
import Derived.Test.YtachobpnpfkmjaaXreelkeeperlaw02PathParts
import Derived.Test.YtachobpnpfkmjaaYPath
import Derived.Test.YtachobpnpfkmjaaP02a
import Derived.Test.YtachobpnpfkmjaaP02f
namespace Go.Proofs.Ytachobpnpfkmjaa.X
open Go.RowKit Go.Proofs.YtachobpnpfkmjaaW.PrintWords Go.Proofs.YtachobpnpfkmjaaW.PrintLast Go.Proofs.YtachobpnpfkmjaaW.PrintMore
attribute [local go_sem] max2_int min2_int max_two min_two max_three min_three max_four min_four
set_option linter.unusedVariables false
set_option linter.unusedSimpArgs false

open Go.Proofs.YtachobpnpfkmjaaY

theorem splitA_len (s : ByteArray) : (splitA s).length = (splitL s.data.toList).length := by rw [splitA_def, List.length_map]

theorem PathParent : reelkeeperlaw02_PathParent.Pure := by
  intro p hp
  refine Ev.rounds ?_
  unfold reelkeeperlaw02_PathParent.f
  refine Ev.bind awake_ev (Ev.if_pos rfl ?_)
  have hbad : Ev (fun k => reelkeeperlaw02_PathParent.j0 k p true true) true := Ev.step (fun _ => rfl) (by simp only [reelkeeperlaw02_PathParent.j0]; exact Ev.if_pos trivial (Ev.now _))
  by_cases h1 : (p.size : Int) > 400
  · exact Ev.if_pos h1 hbad
  refine Ev.if_neg h1 ?_
  rw [may_f (s := p) (by omega)]
  simp only [Option.bind_some]
  cases hm : mayL p.data.toList
  · exact hbad
  refine Ev.step (fun _ => rfl) ?_
  simp only [reelkeeperlaw02_PathParent.j0]
  refine Ev.if_neg (by simp) ?_
  obtain ⟨r, e1, i1⟩ := parent_ev p (by omega)
  refine Ev.bind e1 (Ev.of_eq fun k => ?_)
  rw [parts_f (s := p) (by omega), hm]
  simp only [Option.bind_some, if_true, Lib.toList_data]
  have hz : p.data.toList.length = p.size := Array.length_toList
  rcases i1 with ⟨rfl, h2⟩ | ⟨h2, _, y, h3, h4⟩
  · have : splitA p = [toA p.data.toList] := by rw [splitA_def, splitL_one (h2 hm)]; rfl
    rw [this]
    rfl
  · obtain ⟨x, b⟩ := r
    simp only at h2 h3 ⊢
    subst h2
    have hmx := hm
    rw [h3, mayL_append] at hmx
    simp only [Bool.and_eq_true] at hmx
    have hxs : x.size ≤ p.size := by
      have := congrArg List.length h3
      simp only [List.length_append, List.length_cons, Array.length_toList] at this
      show x.data.size ≤ p.data.size
      omega
    have hb : belowL p.data.toList x.data.toList = true := below_mk hm hmx.1.1 h3
    rw [may_f (s := x) (by omega), hmx.1.1, below_f (a := p) (b := x) (by omega) (by omega), hb, parts_f (s := x) (by omega), hmx.1.1]
    simp only [Option.bind_some, if_true]
    have hL : (splitA p).length = (splitA x).length + 1 := by
      rw [splitA_len, splitA_len, h3, splitL_append, splitL_one h4]; simp
    have hx1 : 0 < (splitA x).length := by rw [splitA_len]; exact List.length_pos_iff.2 (splitL_ne _)
    have hlen := splitA_length p
    rw [hL, wrap_id (by omega) (by omega), _root_.if_pos (by omega)]
    congr 1
    exact decide_eq_true (by omega)

theorem splitL_head {l : List UInt8} (h : l[0]? = some 47) : ∃ t, splitL l = [] :: t := by
  cases l with
  | nil => cases h
  | cons c l => simp at h; subst h; exact ⟨_, splitL_slash l⟩
theorem mayL_parts {l : List UInt8} (h : mayL l = true) : ∀ x ∈ splitL l, oddL x = false := by
  unfold mayL at h
  simp only [Bool.and_eq_true, List.all_eq_true] at h
  intro x hx
  have := h.1 x hx
  simpa using this
theorem mayL_head {l : List UInt8} (h : mayL l = true) : l[0]? ≠ some 47 := by
  intro e
  obtain ⟨t, ht⟩ := splitL_head e
  have := mayL_parts h [] (by rw [ht]; simp)
  revert this; decide
theorem mayL_last {l : List UInt8} (h : mayL l = true) : l[l.length - 1]? ≠ some 47 := by
  intro e
  have e2 : l = l.take (l.length - 1) ++ 47 :: l.drop (l.length - 1 + 1) := list_at e
  have hne : 0 < l.length := List.length_pos_iff.2 (mayL_ne h)
  have e3 : l.drop (l.length - 1 + 1) = [] := List.drop_of_length_le (by omega)
  rw [e3] at e2
  have := mayL_parts h [] (by rw [e2, splitL_append]; simp [splitL])
  revert this; decide

theorem PathSafe : reelkeeperlaw02_PathSafe.Pure := by
  intro p q i hp hq _
  refine Ev.rounds ?_
  unfold reelkeeperlaw02_PathSafe.f
  refine Ev.bind awake_ev (Ev.if_pos rfl ?_)
  have hbad : Ev (fun k => reelkeeperlaw02_PathSafe.j0 k p q i true true) true := Ev.step (fun _ => rfl) (by simp only [reelkeeperlaw02_PathSafe.j0]; exact Ev.if_pos trivial (Ev.now _))
  by_cases h1 : (p.size : Int) > 400
  · exact Ev.if_pos h1 hbad
  refine Ev.if_neg h1 ?_
  by_cases h2 : (q.size : Int) > 400
  · exact Ev.if_pos h2 hbad
  refine Ev.if_neg h2 ?_
  rw [may_f (s := p) (by omega)]
  simp only [Option.bind_some]
  cases hm : mayL p.data.toList
  · exact hbad
  have hz : p.data.toList.length = p.size := Array.length_toList
  have hzq : q.data.toList.length = q.size := Array.length_toList
  have hpos : 0 < p.size := by rw [← hz]; exact List.length_pos_iff.2 (mayL_ne hm)
  have hlp : 0 < (splitA p).length := by rw [splitA_len]; exact List.length_pos_iff.2 (splitL_ne _)
  refine Ev.step (fun _ => rfl) ?_
  simp only [reelkeeperlaw02_PathSafe.j0]
  rw [parts_f (s := p) (by omega), hm]
  simp only [Option.bind_some, if_true]
  refine Ev.if_neg (by simp) (Ev.if_neg (by omega) (Ev.if_pos (by omega) (Ev.if_neg ?_ ?_)))
  · exact fun e => mayL_head hm ((bt_is (n := 0) hpos 47).1 e)
  rw [wrap_id (by omega) (by omega)]
  refine Ev.if_pos (by omega) (Ev.if_pos (by omega) ?_)
  have hb : (bt p ((p.size : Int) - 1) == 47) = false := by
    rw [beq_eq_false_iff_ne]
    intro e
    refine mayL_last hm ?_
    rw [hz]
    exact (bt_is (n := p.size - 1) (by omega) 47).1 (by rw [show ((p.size - 1 : Nat) : Int) = (p.size : Int) - 1 by omega]; exact e)
  rw [hb]
  have hj2 : Ev (fun k => reelkeeperlaw02_PathSafe.j2 k p q false) true := by
    refine Ev.step (fun _ => rfl) ?_
    simp only [reelkeeperlaw02_PathSafe.j2]
    refine Ev.if_neg (by simp) (Ev.of_eq fun k => ?_)
    rw [join_f (a := q) (b := p) (by omega), may_f (s := q) (by omega)]
    simp only [Option.bind_some]
    cases hmq : mayL q.data.toList
    · rfl
    have hnq := mayL_ne hmq
    simp only [hnq, if_false, if_true]
    have hzz : ((q ++ (⟨#[47]⟩ : ByteArray)) ++ p).size = q.size + 1 + p.size := by rw [ByteArray.size_append, ByteArray.size_append]; rfl
    have e : ((q ++ (⟨#[47]⟩ : ByteArray)) ++ p).data.toList = q.data.toList ++ 47 :: p.data.toList := by rw [app_data, app_data]; simp
    generalize (q ++ (⟨#[47]⟩ : ByteArray)) ++ p = z at *
    rw [may_f (s := z) (by omega), e, mayL_append, hmq, hm]
    simp only [Bool.true_and, Option.bind_some]
    by_cases h3 : q.data.toList.length + p.data.toList.length + 1 ≤ 300
    · rw [decide_eq_true h3, below_f (a := z) (b := q) (by omega) (by omega)]
      have : belowL z.data.toList q.data.toList = true := below_mk (r := p.data.toList) (by rw [e, mayL_append, hmq, hm, decide_eq_true h3]; rfl) hmq e
      rw [this]
      rfl
    · rw [decide_eq_false h3]
      simp only [Bool.false_eq_true, if_false]
      rw [_root_.if_pos (by omega)]
  refine Ev.step (fun _ => rfl) ?_
  simp only [reelkeeperlaw02_PathSafe.j1]
  refine Ev.if_neg (by simp) ?_
  by_cases h3 : i ≥ 0
  · refine Ev.if_pos h3 ?_
    by_cases h4 : i < ((splitA p).length : Int)
    · refine Ev.if_pos h4 (Ev.if_pos h3 ?_)
      obtain ⟨n, rfl⟩ := Int.eq_ofNat_of_zero_le h3
      have hn : n < (splitA p).length := by omega
      have hg : rdOf ByteArray.empty (splitA p) (n : Int) = (splitA p)[n] := by unfold rdOf; simp [List.getD, List.getElem?_eq_getElem hn]
      rw [hg, Lib.toList_data]
      have ho : oddL (splitA p)[n].data.toList = false := by
        have hmem : (splitA p)[n] ∈ (splitL p.data.toList).map toA := List.getElem_mem hn
        obtain ⟨x, hx, e⟩ := List.mem_map.1 hmem
        rw [← e, toA_data]
        exact mayL_parts hm x hx
      unfold oddL at ho
      simp only [Bool.or_eq_false_iff, beq_eq_false_iff_ne] at ho
      refine Ev.if_neg ho.1.1 (Ev.if_neg ho.1.2 ?_)
      rw [beq_eq_false_iff_ne.2 ho.2]
      exact hj2
    · exact Ev.if_neg h4 hj2
  · exact Ev.if_neg h3 hj2

/-- The first parts, joined. -/
def joinL : List (List UInt8) → List UInt8
  | [] => []
  | x :: l => l.foldl (fun s y => s ++ 47 :: y) x
theorem joinL_split (l : List UInt8) : joinL (splitL l) = l := by
  have key : ∀ (l x : List UInt8), joinL (onto x (splitL l)) = x ++ l := by
    intro l
    induction l with
    | nil => intro x; simp [splitL, onto, joinL]
    | cons c l ih =>
      intro x
      by_cases hc : c = 47
      · subst hc
        rw [onto_slash]
        have := ih []
        rw [onto_nil, List.nil_append] at this
        have hf : ∀ (t : List (List UInt8)) (z y : List UInt8), t.foldl (fun s y => s ++ 47 :: y) (z ++ y) = z ++ t.foldl (fun s y => s ++ 47 :: y) y := by
          intro t
          induction t with
          | nil => intro z y; rfl
          | cons a t iht => intro z y; simp only [List.foldl_cons, List.append_assoc]; exact iht z _
        cases hs : splitL l with
        | nil => exact absurd hs (splitL_ne l)
        | cons h t =>
          rw [hs] at this
          simp only [joinL] at this
          simp only [joinL, List.foldl_cons]
          have e : x ++ 47 :: h = (x ++ [47]) ++ h := by simp
          rw [e, hf, this]
          simp
      · rw [onto_split _ _ hc, ih]; simp
  have := key l []
  rwa [onto_nil, List.nil_append] at this
theorem joinL_snoc (ll : List (List UInt8)) (x : List UInt8) (h : ll ≠ []) : joinL (ll ++ [x]) = joinL ll ++ 47 :: x := by
  cases ll with
  | nil => exact absurd rfl h
  | cons a t => simp [joinL]

theorem joinL_take (l : List UInt8) (i : Nat) : (joinL ((splitL l).take i)).length ≤ l.length := by
  have hf : ∀ (t : List (List UInt8)) (y : List UInt8), y.length ≤ (t.foldl (fun s y => s ++ 47 :: y) y).length := by
    intro t
    induction t with
    | nil => intro y; exact Nat.le_refl _
    | cons a t iht => intro y; simp only [List.foldl_cons]; have := iht (y ++ 47 :: a); simp only [List.length_append] at this; omega
  conv => rhs; rw [← joinL_split l, ← List.take_append_drop i (splitL l)]
  cases h : (splitL l).take i with
  | nil => simp [joinL]
  | cons a t => simp only [List.cons_append, joinL, List.foldl_append]; exact hf _ _

theorem mayL_one {x : List UInt8} (h : (47 : UInt8) ∉ x) (h1 : oddL x = false) (h2 : x.length ≤ 300) (h3 : (0 : UInt8) ∉ x) : mayL x = true := by
  unfold mayL
  rw [splitL_one h]
  simp [h1, h2, h3]

theorem splitL_mem (l : List UInt8) : ∀ x ∈ splitL l, ∀ c ∈ x, c ∈ l := by
  induction l with
  | nil => intro x hx; simp [splitL] at hx; subst hx; simp
  | cons d l ih =>
    by_cases hd : d = 47
    · subst hd
      rw [splitL_slash]
      intro x hx c hc
      rcases List.mem_cons.1 hx with rfl | hx
      · cases hc
      · exact List.mem_cons_of_mem _ (ih x hx c hc)
    · obtain ⟨h, t, h1, h2⟩ := splitL_cons hd l
      rw [h2]
      rw [h1] at ih
      intro x hx c hc
      rcases List.mem_cons.1 hx with rfl | hx
      · rcases List.mem_cons.1 hc with rfl | hc
        · exact List.mem_cons_self
        · exact List.mem_cons_of_mem _ (ih h (by simp) c hc)
      · exact List.mem_cons_of_mem _ (ih x (by simp [hx]) c hc)
theorem splitL_le (l : List UInt8) : ∀ x ∈ splitL l, x.length ≤ l.length := by
  induction l with
  | nil => intro x hx; simp [splitL] at hx; subst hx; simp
  | cons d l ih =>
    by_cases hd : d = 47
    · subst hd
      rw [splitL_slash]
      intro x hx
      rcases List.mem_cons.1 hx with rfl | hx
      · simp
      · have := ih x hx; simp; omega
    · obtain ⟨h, t, h1, h2⟩ := splitL_cons hd l
      rw [h2]
      rw [h1] at ih
      intro x hx
      rcases List.mem_cons.1 hx with rfl | hx
      · have := ih h (by simp); simp; omega
      · have := ih x (by simp [hx]); simp; omega

theorem PathParts : reelkeeperlaw02_PathParts.Pure := by
  intro p hp
  refine Ev.rounds ?_
  unfold reelkeeperlaw02_PathParts.f
  refine Ev.bind awake_ev (Ev.if_pos rfl ?_)
  by_cases h1 : (p.size : Int) > 400
  · rw [decide_eq_true h1]
    exact Ev.step (fun _ => rfl) (by simp only [reelkeeperlaw02_PathParts.j0]; exact Ev.if_pos trivial (Ev.now _))
  rw [decide_eq_false h1]
  refine Ev.step (fun _ => rfl) ?_
  simp only [reelkeeperlaw02_PathParts.j0]
  refine Ev.if_neg (by simp) ?_
  rw [may_f (s := p) (by omega), parts_f (s := p) (by omega)]
  simp only [Option.bind_some]
  cases hm : mayL p.data.toList
  · exact Ev.if_neg (by simp) (Ev.now _)
  refine Ev.if_pos rfl ?_
  simp only [if_true]
  have hz : p.data.toList.length = p.size := Array.length_toList
  have hlen := splitA_length p
  have loop : ∀ (d i : Nat), i + d = (splitA p).length → Ev (fun k => reelkeeperlaw02_PathParts.l0 k p (splitA p) (toA (joinL ((splitL p.data.toList).take i))) (i : Int)) true := by
    intro d
    induction d with
    | zero =>
      intro i hi
      refine Ev.step (fun _ => rfl) ?_
      simp only [reelkeeperlaw02_PathParts.l0]
      refine Ev.if_neg (by omega) (Ev.of_eq fun k => ?_)
      rw [Lib.toList_data, Lib.toList_data, toA_data, List.take_of_length_le (by rw [← splitA_len]; omega), joinL_split]
      simp
    | succ d ih =>
      intro i hi
      have hlt : i < (splitL p.data.toList).length := by rw [← splitA_len]; omega
      have hlt2 : i < (splitA p).length := by omega
      have hw : wrap64 ((i : Int) + 1) = ((i + 1 : Nat) : Int) := by rw [wrap_id (by omega) (by omega)]; omega
      have hg : rdOf ByteArray.empty (splitA p) (i : Int) = toA (splitL p.data.toList)[i] := by
        unfold rdOf
        rw [splitA_def]
        simp [List.getD, List.getElem?_eq_getElem hlt]
      have hmem : (splitL p.data.toList)[i] ∈ splitL p.data.toList := List.getElem_mem hlt
      have htk : (splitL p.data.toList).take (i + 1) = (splitL p.data.toList).take i ++ [(splitL p.data.toList)[i]] := by rw [List.take_succ_eq_append_getElem hlt]
      have hle := splitL_le _ _ hmem
      have hmx : mayL (splitL p.data.toList)[i] = true := by
        have h0 : (0 : UInt8) ∉ p.data.toList := by
          have := hm
          unfold mayL at this
          simp only [Bool.and_eq_true] at this
          simpa using this.2.2
        exact mayL_one (splitL_noslash _ _ hmem) (mayL_parts hm _ hmem) (by have := mayL_size hm; omega) (fun h => h0 (splitL_mem _ _ hmem _ h))
      have hsl := splitL_noslash _ _ hmem
      refine Ev.step (fun _ => rfl) ?_
      simp only [reelkeeperlaw02_PathParts.l0]
      refine Ev.if_pos (by omega) (Ev.if_pos (by omega) ?_)
      rw [hg, hw]
      generalize hX : (splitL p.data.toList)[i] = x at *
      have hxs : (toA x).size = x.length := by show x.toArray.size = _; simp
      rw [may_f (s := toA x) (by omega), parts_f (s := toA x) (by omega), toA_data, hmx]
      simp only [Option.bind_some, if_true]
      have hone : (splitA (toA x)).length = 1 := by rw [splitA_len, toA_data, splitL_one hsl]; rfl
      rw [hone]
      refine Ev.if_pos (by omega) ?_
      have hjs : (toA (joinL ((splitL p.data.toList).take i))).size ≤ p.size := by
        have := joinL_take p.data.toList i
        show (joinL _).toArray.size ≤ _
        simp only [List.size_toArray]
        omega
      rw [join_f (a := toA (joinL ((splitL p.data.toList).take i))) (b := toA x) (by omega)]
      simp only [Option.bind_some]
      have hnext : (if (toA (joinL ((splitL p.data.toList).take i))).data.toList = [] then toA x else toA (joinL ((splitL p.data.toList).take i)) ++ (⟨#[47]⟩ : ByteArray) ++ toA x) = toA (joinL ((splitL p.data.toList).take (i + 1))) := by
        rw [htk]
        by_cases h0 : i = 0
        · subst h0
          rfl
        · have hne : (splitL p.data.toList).take i ≠ [] := by
            intro e
            have := congrArg List.length e
            simp at this
            rcases this with h | h
            · exact h0 h
            · exact splitL_ne _ h
          rw [joinL_snoc _ _ hne]
          have hj : joinL ((splitL p.data.toList).take i) ≠ [] := by
            cases hs : splitL p.data.toList with
            | nil => exact absurd hs (splitL_ne _)
            | cons h t =>
              have hh : h ≠ [] := by
                intro e
                have := mayL_parts hm h (by rw [hs]; simp)
                rw [e] at this
                revert this; decide
              obtain ⟨j, rfl⟩ : ∃ j, i = j + 1 := ⟨i - 1, by omega⟩
              simp only [List.take_succ_cons, joinL]
              intro e
              have hf : ∀ (t : List (List UInt8)) (y : List UInt8), y.length ≤ (t.foldl (fun s y => s ++ 47 :: y) y).length := by
                intro t
                induction t with
                | nil => intro y; exact Nat.le_refl _
                | cons a t iht => intro y; simp only [List.foldl_cons]; have := iht (y ++ 47 :: a); simp only [List.length_append] at this; omega
              have := hf (t.take j) h
              rw [e] at this
              exact hh (List.eq_nil_of_length_eq_zero (by simpa using this))
          rw [_root_.if_neg (by rw [toA_data]; exact hj)]
          exact ext_data (by rw [app_data, app_data, toA_data, toA_data, toA_data]; simp)
      rw [hnext]
      exact ih (i + 1) (by omega)
  have := loop (splitA p).length 0 (by omega)
  exact this

end Go.Proofs.Ytachobpnpfkmjaa.X
