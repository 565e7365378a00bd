import Derived.Test.YtklbnfpjjcidiaaXK
import Derived.Test.YtklbnfpjjcidiaaXE26
import Derived.Test.YtklbnfpjjcidiaaXGfsa
import Derived.Test.YtklbnfpjjcidiaaXGfsc
import Derived.Test.YtklbnfpjjcidiaaXGfsd
import Derived.Test.YtklbnfpjjcidiaaXGpath
import Derived.Test.YtklbnfpjjcidiaaXGslices
import Derived.Test.YtklbnfpjjcidiaaXGtree
import Derived.Test.YtklbnfpjjcidiaaXfsSame
import Derived.Test.YtklbnfpjjcidiaaXreelkeeperlaw06Two
import Derived.Test.YtklbnfpjjcidiaaYAll
import Derived.Test.YtklbnfpjjcidiaaP02p
import Derived.Test.YtklbnfpjjcidiaaP06a
import Derived.Test.YtklbnfpjjcidiaaPGA
import Derived.Deep.RegionHeld3
import Derived.Laws.EntriesVeiled
import Derived.WalkSpells
namespace Go.Proofs.Ytklbnfpjjcidiaa.X
open Go.RowKit Go.Proofs.YtklbnfpjjcidiaaW.PrintWords Go.Proofs.YtklbnfpjjcidiaaW.PrintLast Go.Proofs.YtklbnfpjjcidiaaW.PrintMore
attribute [local go_sem] max2_int min2_int max_two min_two
set_option linter.unusedVariables false
set_option linter.unusedSimpArgs false

attribute [local go_sem high] eqA26
open Go.Proofs.YtklbnfpjjcidiaaY
set_option maxRecDepth 100000
/-! What the file system answers, plainly. -/
theorem mem_at {l : List Nd} (hs : Sorted l) {x : Nd} (hx : x ∈ l) {p : ByteArray} (hp : x.f0.toList = p.toList) : l[fsIdx l p]? = some x := by
  obtain ⟨j, hj, rfl⟩ := List.mem_iff_getElem.1 hx
  have hi : fsIdx l p = j := by
    refine fsIdx_is (by omega) (fun k hk hkj => ?_) (fun _ => ?_)
    · have := List.pairwise_iff_getElem.1 hs k j hk hj hkj
      unfold ltB at this ⊢
      rw [← hp]; exact this
    · unfold ltB
      rw [← hp]; exact less_irrefl _
  rw [hi, List.getElem?_eq_getElem hj]
theorem mem_has {l : List Nd} (hs : Sorted l) {x : Nd} (hx : x ∈ l) {p : ByteArray} (hp : x.f0.toList = p.toList) : fsHas l p = true := by
  unfold fsHas
  rw [mem_at hs hx hp]
  exact beq_iff_eq.2 hp
theorem has_mem {l : List Nd} {p : ByteArray} (h : fsHas l p = true) : ∃ x, x ∈ l ∧ x.f0.toList = p.toList ∧ l[fsIdx l p]? = some x := by
  obtain ⟨hi, he⟩ := fsHas_lt h
  exact ⟨_, List.getElem_mem hi, beq_iff_eq.1 he, List.getElem?_eq_getElem hi⟩
theorem has_not {l : List Nd} {p : ByteArray} (h : fsHas l p = false) {x : Nd} (hs : Sorted l) (hx : x ∈ l) : x.f0.toList ≠ p.toList := fun e => by
  rw [mem_has hs hx e] at h; cases h
theorem not_has {l : List Nd} {p : ByteArray} (h : ∀ x ∈ l, x.f0.toList ≠ p.toList) : fsHas l p = false := by
  rw [← Bool.not_eq_true]
  intro hh
  obtain ⟨x, hx, he, _⟩ := has_mem hh
  exact h x hx he
theorem is_iff {l : List Nd} (hs : Sorted l) {p : ByteArray} {k : Int} : fsIs l p k = true ↔ ∃ x ∈ l, x.f0.toList = p.toList ∧ x.f2 = k := by
  constructor
  · intro h
    obtain ⟨x, hx, he, hk⟩ := fsIs_at h
    exact ⟨x, List.mem_of_getElem? hx, beq_iff_eq.1 he, hk⟩
  · rintro ⟨x, hx, he, hk⟩
    unfold fsIs
    rw [mem_at hs hx he]
    simp only [Bool.and_eq_true, beq_iff_eq]
    exact ⟨he, hk⟩
theorem may_iff {l : List Nd} : fsMay l = true ↔ l.length ≤ 20 ∧ Sorted l ∧ (∀ x ∈ l, one x = true) ∧ ∀ x ∈ l, standsB l x = true := by
  constructor
  · intro h
    obtain ⟨h1, h2, h3⟩ := fsMay_rises h
    refine ⟨h1, sorted_of_rises h2, fun x hx => ?_, fun x hx => List.all_eq_true.1 h3 x hx⟩
    obtain ⟨k, hk, rfl⟩ := List.mem_iff_getElem.1 hx
    have := h2 k hk
    cases k with
    | zero => rwa [okAt0 (List.getElem?_eq_getElem hk)] at this
    | succ k =>
      rw [okAt_succ (List.getElem?_eq_getElem hk) (List.getElem?_eq_getElem (by omega)), Bool.and_eq_true] at this
      exact this.1
  · rintro ⟨h1, h2, h3, h4⟩
    rw [fsMay_end h1]
    · rw [any_not, List.all_eq_true]
      exact h4
    · intro k hk
      cases k with
      | zero => rw [okAt0 (List.getElem?_eq_getElem hk)]; exact h3 _ (List.getElem_mem hk)
      | succ k =>
        rw [okAt_succ (List.getElem?_eq_getElem hk) (List.getElem?_eq_getElem (by omega)), h3 _ (List.getElem_mem hk), Bool.true_and]
        have hlt := List.pairwise_iff_getElem.1 h2 k (k + 1) (by omega) hk (by omega)
        unfold ltB at hlt
        unfold leB
        rw [less_asymm hlt, beq_eq_false_iff_ne.2 (fun e => less_ne hlt e.symm)]
        rfl
/-! A node put in. -/
theorem ins_ahead {l : List Nd} {p : ByteArray} {k : Nat} (hk : k < fsIdx l p) (hkl : k < l.length) : ltB l[k].f0 p = true := by
  have := List.not_of_lt_findIdx hk
  simpa using this
theorem ins_behind {l : List Nd} {p : ByteArray} (hs : Sorted l) (hh : fsHas l p = false) {k : Nat} (hk : fsIdx l p ≤ k) (hkl : k < l.length) : ltB p l[k].f0 = true := by
  have hi : fsIdx l p < l.length := by omega
  have h1 : ltB l[fsIdx l p].f0 p = false := by
    have := List.findIdx_getElem (xs := l) (p := fun n : Nd => !ltB n.f0 p) (w := hi)
    rw [Bool.not_eq_true'] at this
    exact this
  have hne : l[fsIdx l p].f0.toList ≠ p.toList := has_not hh hs (List.getElem_mem hi)
  have h2 : ltB p l[fsIdx l p].f0 = true := less_total h1 hne
  rcases Nat.lt_or_ge (fsIdx l p) k with h | h
  · exact less_trans h2 (List.pairwise_iff_getElem.1 hs _ k hi hkl h)
  · have e : k = fsIdx l p := by omega
    subst e
    exact h2
def ins (l : List Nd) (n : Nd) : List Nd := l.take (fsIdx l n.f0) ++ n :: l.drop (fsIdx l n.f0)
theorem mem_ins {l : List Nd} {n x : Nd} : x ∈ ins l n ↔ x = n ∨ x ∈ l := by
  unfold ins
  rw [List.mem_append, List.mem_cons]
  conv => rhs; rw [← List.take_append_drop (fsIdx l n.f0) l, List.mem_append]
  constructor
  · rintro (h | h | h)
    · exact .inr (.inl h)
    · exact .inl h
    · exact .inr (.inr h)
  · rintro (h | h | h)
    · exact .inr (.inl h)
    · exact .inl h
    · exact .inr (.inr h)
theorem ins_len (l : List Nd) (n : Nd) : (ins l n).length = l.length + 1 := by
  have := fsIdx_le l n.f0
  unfold ins
  rw [List.length_append, List.length_cons, List.length_take, List.length_drop]
  omega
theorem ins_sorted {l : List Nd} {n : Nd} (hs : Sorted l) (hh : fsHas l n.f0 = false) : Sorted (ins l n) := by
  unfold ins Sorted
  rw [List.pairwise_append, List.pairwise_cons]
  refine ⟨hs.sublist (List.take_sublist _ _), ⟨fun y hy => ?_, hs.sublist (List.drop_sublist _ _)⟩, fun x hx y hy => ?_⟩
  · obtain ⟨j, hj, rfl⟩ := List.mem_iff_getElem.1 hy
    rw [List.getElem_drop]
    exact ins_behind hs hh (by omega) _
  · obtain ⟨i, hi, rfl⟩ := List.mem_iff_getElem.1 hx
    rw [List.getElem_take]
    rw [List.length_take] at hi
    have h1 : ltB (l[i]'(by omega)).f0 n.f0 = true := ins_ahead (by omega) (by omega)
    rcases List.mem_cons.1 hy with rfl | hy
    · exact h1
    · obtain ⟨j, hj, rfl⟩ := List.mem_iff_getElem.1 hy
      rw [List.getElem_drop]
      exact less_trans h1 (ins_behind hs hh (by omega) _)
theorem is_more {l m : List Nd} (hs : Sorted l) (hm : Sorted m) (hsub : ∀ x ∈ l, x ∈ m) {p : ByteArray} {k : Int} (h : fsIs l p k = true) : fsIs m p k = true := by
  obtain ⟨x, hx, h1, h2⟩ := (is_iff hs).1 h
  exact (is_iff hm).2 ⟨x, hsub x hx, h1, h2⟩
theorem stands_iff {l : List Nd} {n : Nd} : standsB l n = true ↔ ((parentOf n.f0).2 = true → fsIs l (parentOf n.f0).1 53 = true) ∧ (n.f2 = 49 → fsIs l n.f1 48 = true) := by
  unfold standsB
  rw [Bool.and_eq_true, Bool.or_eq_true, Bool.or_eq_true, Bool.not_eq_true', Bool.not_eq_true', beq_eq_false_iff_ne]
  constructor
  · rintro ⟨h1, h2⟩
    exact ⟨fun h => h1.resolve_left (by rw [h]; decide), fun h => h2.resolve_left (fun c => c h)⟩
  · rintro ⟨h1, h2⟩
    refine ⟨?_, ?_⟩
    · cases hp : (parentOf n.f0).2 with
      | false => exact .inl rfl
      | true => exact .inr (h1 hp)
    · by_cases hk : n.f2 = 49
      · exact .inr (h2 hk)
      · exact .inl hk
theorem stands_more {l m : List Nd} (hs : Sorted l) (hm : Sorted m) (hsub : ∀ x ∈ l, x ∈ m) {n : Nd} (h : standsB l n = true) : standsB m n = true := by
  obtain ⟨h1, h2⟩ := stands_iff.1 h
  exact stands_iff.2 ⟨fun c => is_more hs hm hsub (h1 c), fun c => is_more hs hm hsub (h2 c)⟩
/-- When a node is put in. -/
theorem put_ok {l : List Nd} {n : Nd} : (fsPut l n).2 = 0 ↔ fsMay l = true ∧ one n = true ∧ fsHas l n.f0 = false ∧ standsB l n = true ∧ l.length ≠ 20 := by
  unfold fsPut
  by_cases h1 : (fsMay l && one n) = true
  · rw [if_pos h1]
    rw [Bool.and_eq_true] at h1
    by_cases h2 : fsHas l n.f0 = true
    · rw [if_pos h2, h2]; simp
    · rw [if_neg h2]
      rw [Bool.not_eq_true] at h2
      by_cases h3 : standsB l n = true
      · rw [if_pos h3]
        by_cases h4 : l.length = 20
        · rw [if_pos h4]; simp [h4]
        · rw [if_neg h4]; simp [h1.1, h1.2, h2, h3, h4]
      · rw [if_neg h3]; simp [h3]
  · rw [if_neg h1]
    rw [Bool.and_eq_true] at h1
    constructor
    · intro h; cases h
    · rintro ⟨h2, h3, _⟩; exact absurd ⟨h2, h3⟩ h1
theorem put_is {l : List Nd} {n : Nd} (h : (fsPut l n).2 = 0) : fsPut l n = (ins l n, 0) := by
  obtain ⟨h1, h2, h3, h4, h5⟩ := put_ok.1 h
  exact fsPut_0 (by rw [h1, h2]; rfl) h3 h4 h5
theorem put_no {l : List Nd} {n : Nd} (h : (fsPut l n).2 ≠ 0) : (fsPut l n).1 = l := by
  unfold fsPut at h ⊢
  by_cases h1 : (fsMay l && one n) = true
  · rw [if_pos h1] at h ⊢
    by_cases h2 : fsHas l n.f0 = true
    · rw [if_pos h2]
    · rw [if_neg h2] at h ⊢
      by_cases h3 : standsB l n = true
      · rw [if_pos h3] at h ⊢
        by_cases h4 : l.length = 20
        · rw [if_pos h4]
        · rw [if_neg h4] at h; exact absurd rfl h
      · rw [if_neg h3]
  · rw [if_neg h1]
theorem put_may {l : List Nd} {n : Nd} (h : (fsPut l n).2 = 0) : fsMay (ins l n) = true := by
  obtain ⟨h1, h2, h3, h4, h5⟩ := put_ok.1 h
  obtain ⟨m1, m2, m3, m4⟩ := may_iff.1 h1
  have hs := ins_sorted m2 h3
  refine may_iff.2 ⟨by rw [ins_len]; omega, hs, fun x hx => ?_, fun x hx => ?_⟩
  · rcases mem_ins.1 hx with rfl | hx
    · exact h2
    · exact m3 x hx
  · rcases mem_ins.1 hx with rfl | hx
    · exact stands_more m2 hs (fun y hy => mem_ins.2 (.inr hy)) h4
    · exact stands_more m2 hs (fun y hy => mem_ins.2 (.inr hy)) (m4 x hx)
theorem get_mem {l : List Nd} (hm : fsMay l = true) {x : Nd} (hx : x ∈ l) {p : ByteArray} (hp : x.f0.toList = p.toList) : fsGet l p = (x, 0) :=
  fsGet_some hm (mem_has (may_sorted hm) hx hp) (mem_at (may_sorted hm) hx hp)
theorem get_out {l : List Nd} (hm : fsMay l = true) {p : ByteArray} (h : ∀ x ∈ l, x.f0.toList ≠ p.toList) : fsGet l p = (nd0, 9) := fsGet_none hm (not_has h)
theorem get_ins {l : List Nd} {n : Nd} (h : (fsPut l n).2 = 0) : fsGet (ins l n) n.f0 = (n, 0) := get_mem (put_may h) (mem_ins.2 (.inl rfl)) rfl
theorem get_beside {l : List Nd} {n : Nd} (h : (fsPut l n).2 = 0) {p : ByteArray} (hp : n.f0.toList ≠ p.toList) : fsGet (ins l n) p = fsGet l p := by
  have hm := (put_ok.1 h).1
  by_cases hx : ∃ x ∈ l, x.f0.toList = p.toList
  · obtain ⟨x, hx, he⟩ := hx
    rw [get_mem hm hx he, get_mem (put_may h) (mem_ins.2 (.inr hx)) he]
  · have hx : ∀ x ∈ l, x.f0.toList ≠ p.toList := fun x h1 h2 => hx ⟨x, h1, h2⟩
    rw [get_out hm hx, get_out (put_may h)]
    intro x h1
    rcases mem_ins.1 h1 with rfl | h1
    · exact hp
    · exact hx x h1
theorem put_again {l : List Nd} {n : Nd} (h : (fsPut l n).2 = 0) : fsPut (ins l n) n = (ins l n, 10) := by
  refine fsPut_10 ?_ (mem_has (may_sorted (put_may h)) (mem_ins.2 (.inl rfl)) rfl)
  rw [put_may h, (put_ok.1 h).2.1]; rfl
/-! A file that grows. -/
theorem grow_1 {l : List Nd} {p d : ByteArray} (h : (fsGrow l p d).2 = 0) : fsMay l = true ∧ ∃ x, l[fsIdx l p]? = some x ∧ x.f0.toList = p.toList ∧ x.f2 = 48 ∧ x.f7.size + d.size ≤ 4000 ∧ fsGrow l p d = (l.set (fsIdx l p) { x with f7 := x.f7 ++ d }, 0) := by
  cases hm : fsMay l with
  | false => rw [fsGrow_1 hm] at h; cases h
  | true =>
    cases hi : fsIs l p 48 with
    | false => rw [fsGrow_9 hm hi] at h; cases h
    | true =>
      obtain ⟨x, hx, he, hk⟩ := fsIs_at hi
      by_cases hd : (d.size : Int) > 4000 - (x.f7.size : Int)
      · rw [fsGrow_8 hm hi hx hd] at h; cases h
      · exact ⟨rfl, x, hx, beq_iff_eq.1 he, hk, by omega, fsGrow_0 hm hi hx hd⟩
theorem grow_no {l : List Nd} {p d : ByteArray} (h : (fsGrow l p d).2 ≠ 0) : (fsGrow l p d).1 = l := by
  cases hm : fsMay l with
  | false => rw [fsGrow_1 hm]
  | true =>
    cases hi : fsIs l p 48 with
    | false => rw [fsGrow_9 hm hi]
    | true =>
      obtain ⟨x, hx, _, _⟩ := fsIs_at hi
      by_cases hd : (d.size : Int) > 4000 - (x.f7.size : Int)
      · rw [fsGrow_8 hm hi hx hd]
      · rw [fsGrow_0 hm hi hx hd] at h; exact absurd rfl h
theorem one_grown {x : Nd} (hk : x.f2 = 48) (h : one x = true) {s : ByteArray} (hs : s.size ≤ 4000) : one { x with f7 := s } = true := by
  obtain ⟨a0, a1, a2, a3, a4, a5, a6, a7⟩ := x
  simp only at hk
  subst hk
  unfold one tree_One.f tree_One.ask at h ⊢
  unfold tree_kinds_1.f at h ⊢
  have e0 : (⟨#[]⟩ : ByteArray).toList = [] := by decide +kernel
  simp only [if_pos, e0, beq_iff_eq] at h ⊢
  by_cases c : a1.toList = []
  · rw [if_pos c] at h ⊢
    have hd : decide ((s.size : Int) ≤ 4000) = true := decide_eq_true (by omega)
    rw [hd]
    cases hmm : path_May.f a0 with
    | none => rw [hmm] at h; simp at h
    | some b =>
      rw [hmm] at h
      simp only [Option.bind_some, Option.getD_some, Bool.and_eq_true] at h ⊢
      simp_all
  · rw [if_neg c] at h
    cases hmm : path_May.f a0 with
    | none => rw [hmm] at h; simp at h
    | some b => rw [hmm] at h; simp at h
theorem of_getElem {l : List Nd} {i : Nat} {x : Nd} (hx : l[i]? = some x) : ∃ h : i < l.length, l[i] = x := List.getElem?_eq_some_iff.1 hx
theorem set_len {l : List Nd} {i : Nat} {x : Nd} : (l.set i x).length = l.length := List.length_set
theorem set_f0 {l : List Nd} {i : Nat} {x : Nd} (hx : l[i]? = some x) (s : ByteArray) (j : Nat) (hj : j < l.length) : ((l.set i { x with f7 := s })[j]'(by rw [set_len]; exact hj)).f0 = l[j].f0 := by
  obtain ⟨h, rfl⟩ := of_getElem hx
  rw [List.getElem_set]
  split
  · next e => subst e; rfl
  · rfl
theorem set_sorted {l : List Nd} (hs : Sorted l) {i : Nat} {x : Nd} (hx : l[i]? = some x) (s : ByteArray) : Sorted (l.set i { x with f7 := s }) := by
  unfold Sorted
  rw [List.pairwise_iff_getElem]
  intro a b ha hb hab
  rw [set_len] at ha hb
  rw [set_f0 hx s a ha, set_f0 hx s b hb]
  exact List.pairwise_iff_getElem.1 hs a b ha hb hab
theorem sorted_one {l : List Nd} (hs : Sorted l) {x y : Nd} (hx : x ∈ l) (hy : y ∈ l) (e : y.f0.toList = x.f0.toList) : y = x := by
  have h1 := mem_at hs hx (p := x.f0) rfl
  rw [mem_at hs hy e] at h1
  exact Option.some.inj h1
theorem in_set {l : List Nd} {i : Nat} {x y : Nd} (hx : l[i]? = some x) (s : ByteArray) (hy : y ∈ l) (hne : y ≠ x) : y ∈ l.set i { x with f7 := s } := by
  obtain ⟨h, rfl⟩ := of_getElem hx
  obtain ⟨j, hj, rfl⟩ := List.mem_iff_getElem.1 hy
  have hji : i ≠ j := fun e => hne (by subst e; rfl)
  exact List.mem_iff_getElem.2 ⟨j, by rw [set_len]; exact hj, by rw [List.getElem_set, if_neg hji]⟩
theorem set_in {l : List Nd} {i : Nat} {x : Nd} (hx : l[i]? = some x) (s : ByteArray) : { x with f7 := s } ∈ l.set i { x with f7 := s } := by
  obtain ⟨h, _⟩ := of_getElem hx
  exact List.mem_iff_getElem.2 ⟨i, by rw [set_len]; exact h, by rw [List.getElem_set, if_pos rfl]⟩
theorem set_is {l : List Nd} (hs : Sorted l) {i : Nat} {x : Nd} (hx : l[i]? = some x) (s : ByteArray) {q : ByteArray} {k : Int} : fsIs (l.set i { x with f7 := s }) q k = true ↔ fsIs l q k = true := by
  have hm := set_sorted hs hx s
  have hxl := List.mem_of_getElem? hx
  rw [is_iff hm, is_iff hs]
  constructor
  · rintro ⟨y, hy, h1, h2⟩
    rcases List.mem_or_eq_of_mem_set hy with hy | rfl
    · exact ⟨y, hy, h1, h2⟩
    · exact ⟨x, hxl, h1, h2⟩
  · rintro ⟨y, hy, h1, h2⟩
    by_cases e : y = x
    · subst e; exact ⟨_, set_in hx s, h1, h2⟩
    · exact ⟨y, in_set hx s hy e, h1, h2⟩
theorem set_stands {l : List Nd} (hs : Sorted l) {i : Nat} {x : Nd} (hx : l[i]? = some x) (s : ByteArray) {n : Nd} (h : standsB l n = true) : standsB (l.set i { x with f7 := s }) n = true := by
  obtain ⟨h1, h2⟩ := stands_iff.1 h
  exact stands_iff.2 ⟨fun c => (set_is hs hx s).2 (h1 c), fun c => (set_is hs hx s).2 (h2 c)⟩
theorem stands_data {l : List Nd} {x : Nd} {s : ByteArray} (h : standsB l x = true) : standsB l { x with f7 := s } = true := h
theorem set_may {l : List Nd} (hm : fsMay l = true) {i : Nat} {x : Nd} (hx : l[i]? = some x) (hk : x.f2 = 48) {s : ByteArray} (hz : s.size ≤ 4000) : fsMay (l.set i { x with f7 := s }) = true := by
  obtain ⟨m1, m2, m3, m4⟩ := may_iff.1 hm
  have hxl := List.mem_of_getElem? hx
  refine may_iff.2 ⟨by rw [set_len]; exact m1, set_sorted m2 hx s, fun y hy => ?_, fun y hy => ?_⟩
  · rcases List.mem_or_eq_of_mem_set hy with hy | rfl
    · exact m3 y hy
    · exact one_grown hk (m3 x hxl) hz
  · rcases List.mem_or_eq_of_mem_set hy with hy | rfl
    · exact set_stands m2 hx s (m4 y hy)
    · exact set_stands m2 hx s (stands_data (m4 x hxl))
theorem set_get {l : List Nd} (hm : fsMay l = true) {i : Nat} {x : Nd} (hx : l[i]? = some x) {s : ByteArray} (hm2 : fsMay (l.set i { x with f7 := s }) = true) {q : ByteArray} (hq : x.f0.toList ≠ q.toList) : fsGet (l.set i { x with f7 := s }) q = fsGet l q := by
  by_cases h : ∃ y ∈ l, y.f0.toList = q.toList
  · obtain ⟨y, hy, he⟩ := h
    rw [get_mem hm hy he, get_mem hm2 (in_set hx s hy (fun e => hq (by rw [← e]; exact he))) he]
  · have h : ∀ y ∈ l, y.f0.toList ≠ q.toList := fun y h1 h2 => h ⟨y, h1, h2⟩
    rw [get_out hm h, get_out hm2]
    intro y hy
    rcases List.mem_or_eq_of_mem_set hy with hy | rfl
    · exact h y hy
    · exact hq
theorem text_file {l : List Nd} (hm : fsMay l = true) {x : Nd} (hx : x ∈ l) {p : ByteArray} (hp : x.f0.toList = p.toList) (hk : x.f2 = 48) : fsText l p = (x.f7, 0) := by
  unfold fsText
  rw [get_mem hm hx hp, if_neg (by rintro ⟨_, h⟩; rw [hk] at h; revert h; decide)]
  unfold textOf
  rw [if_pos rfl, if_pos hk]
/-- A list is the same as itself. -/
theorem same_self (l : List Nd) (hl : l.length ≤ 1000) : ∀ (d i : Nat), i + d = l.length → Ev (fun k => slices_Equal_Node.l0 k l l (l.length : Int) (i : Int)) true := by
  intro d
  induction d with
  | zero =>
    intro i hi
    refine Ev.step (fun _ => rfl) ?_
    simp only [slices_Equal_Node.l0]
    exact Ev.if_neg (by omega) (Ev.now _)
  | succ d ih =>
    intro i hi
    have hw : wrap64 ((i : Int) + 1) = ((i + 1 : Nat) : Int) := by rw [wrap_id (by omega) (by omega)]; omega
    refine Ev.step (fun _ => rfl) ?_
    simp only [slices_Equal_Node.l0]
    refine Ev.if_pos (by omega) ?_
    refine Ev.if_pos (by omega) ?_
    refine Ev.if_pos (by omega) ?_
    refine Ev.if_pos (by omega) ?_
    rw [hw]
    exact Ev.if_neg (by simp) (ih (i + 1) (by omega))
theorem same_refl (l : List Nd) (hl : l.length ≤ 1000) : Ev (fun k => fs_Same.f k l l) true := by
  unfold fs_Same.f
  refine Ev.bind (a := true) ?_ (Ev.now _)
  unfold slices_Equal_Node.f
  exact Ev.if_pos rfl (same_self l hl l.length 0 (by omega))
/-- Same, of a list and itself. -/
theorem fs_Same.self (l : List Nd) (hl : l.length ≤ 1000) (w : World) (A B : Option Addr) (c d : Nat) (hA : Kd.C kNd w A l.length l) (hc : l.length ≤ c) (hB : Kd.C kNd w B l.length l) (hd : l.length ≤ d) :
    Calls Try.prog 23 #[.agg #[.slice A l.length c], .agg #[.slice B l.length d]] w fun e w' => e = .returned (.bool true) ∧ Below w.heap.size w w' := by
  obtain ⟨k, hk⟩ := Ev.rounds (same_refl l hl)
  exact fs_Same.calls k A c l B d l true w hA hc hB hd hk
/-- A row of nodes is not touched where a block of one cell is written. -/
theorem C_past {W : World} {b n : Nat} {A : Option Addr} {l : List Nd} {v : Value} {T : TypeId} (hC : Kd.C kNd W A n l) (hZ : W.heap[b]? = some (.cells #[v] T (0, 0))) (hn : 0 < n) (x : Value) : Kd.C kNd (W.setCell ⟨b, 0, none⟩ x) A n l := by
  have h0 := Kd.C_len hC
  obtain ⟨y, hy⟩ : ∃ y, l[0]? = some y := ⟨_, List.getElem?_eq_getElem (by omega)⟩
  obtain ⟨ad, rfl, _, k1, _⟩ := nd_cells hC hn y hy
  have hne : ad.block ≠ b := fun e => by
    have k1 : W.cell? ⟨ad.block, ad.off + 1, none⟩ = some (.string y.f1) := k1
    rw [e, blk_cell hZ (ad.off + 1)] at k1
    simp at k1
  obtain ⟨h1, h2, h3⟩ := hC
  refine ⟨h1, h2, fun hp => ?_⟩
  obtain ⟨ad2, e2, h4⟩ := h3 hp
  obtain rfl := Option.some.inj e2
  refine ⟨ad, rfl, fun j p hj => ?_⟩
  obtain ⟨cs, e3, e4, e5⟩ := h4 j p hj
  have e6 := k26_open e4
  subst e6
  refine ⟨_, e3, k26_mk _ p, fun i u hi => ?_⟩
  have hb : (ad.add (j * kNd.sz + i)).block = ad.block := by unfold Addr.add; split <;> rfl
  exact (cell_far (p := ⟨b, 0, none⟩) (show (ad.add (j * kNd.sz + i)).block ≠ b by rw [hb]; exact hne) x).trans (e5 i u hi)
theorem parent_a : parentOf ⟨#[97]⟩ = (⟨#[]⟩, false) := IsParent.unique (parentOf_ev (by decide)).2 (.inl ⟨rfl, fun _ => by decide +kernel⟩)
theorem parent_ab : parentOf ⟨#[97, 47, 98]⟩ = (⟨#[97]⟩, true) := IsParent.unique (parentOf_ev (by decide)).2 (.inr ⟨rfl, by decide +kernel, [98], rfl, by decide +kernel⟩)
def t19 : Nd := ⟨⟨#[97]⟩, ⟨#[]⟩, 53, 493, 0, 0, 0, ⟨#[]⟩⟩
def u19 : Nd := ⟨⟨#[97, 47, 98]⟩, ⟨#[]⟩, 48, 420, 0, 0, 7, ⟨#[104, 101, 108, 108, 111]⟩⟩
def v19 : Nd := ⟨⟨#[97, 47, 98]⟩, ⟨#[]⟩, 48, 420, 0, 0, 7, ⟨#[104, 101, 108, 108, 111, 33]⟩⟩
theorem nil_fs : fsMay [] = true := may_iff.2 ⟨by decide, List.Pairwise.nil, fun _ h => (by cases h), fun _ h => (by cases h)⟩
theorem a19_1 : fsPut [] u19 = ([], 9) := by
  refine fsPut_9 (by rw [nil_fs]; decide +kernel) rfl ?_
  rw [← Bool.not_eq_true, stands_iff]
  rintro ⟨h, _⟩
  have h2 := h (by show (parentOf ⟨#[97, 47, 98]⟩).2 = true; rw [parent_ab])
  unfold fsIs at h2
  cases h2
theorem a19_2 : (fsPut [] t19).2 = 0 := by
  refine put_ok.2 ⟨nil_fs, by decide +kernel, rfl, stands_iff.2 ⟨fun h => ?_, fun h => ?_⟩, by decide⟩
  · have h : (parentOf ⟨#[97]⟩).2 = true := h
    rw [parent_a] at h; cases h
  · exact absurd h (by decide)
theorem a19_2v : fsPut [] t19 = ([t19], 0) := put_is a19_2
theorem a19_3 : (fsPut [t19] u19).2 = 0 := by
  refine put_ok.2 ⟨put_may a19_2, by decide +kernel, by decide +kernel, stands_iff.2 ⟨fun h => ?_, fun h => ?_⟩, by decide⟩
  · show fsIs [t19] (parentOf ⟨#[97, 47, 98]⟩).1 53 = true
    rw [parent_ab]
    decide +kernel
  · exact absurd h (by decide)
theorem a19_ins : ins [t19] u19 = [t19, u19] := by
  unfold ins
  rw [show fsIdx [t19] u19.f0 = 1 by decide +kernel]
  rfl
theorem a19_3v : fsPut [t19] u19 = ([t19, u19], 0) := (put_is a19_3).trans (by rw [a19_ins])
theorem a19_may2 : fsMay [t19, u19] = true := by
  have h := put_may a19_3
  rwa [a19_ins] at h
theorem a19_idx : fsIdx [t19, u19] ⟨#[97, 47, 98]⟩ = 1 := by decide +kernel
theorem a19_4 : fsGrow [t19, u19] ⟨#[97, 47, 98]⟩ ⟨#[33]⟩ = ([t19, v19], 0) := by
  refine (fsGrow_0 (x := u19) a19_may2 (by decide +kernel) (by rw [a19_idx]; rfl) (by decide +kernel)).trans ?_
  rw [a19_idx]
  rfl
theorem a19_may3 : fsMay [t19, v19] = true := set_may (i := 1) (x := u19) (s := ⟨#[104, 101, 108, 108, 111, 33]⟩) a19_may2 rfl rfl (by decide)
theorem a19_5 : fsText [t19, v19] ⟨#[97, 47, 98]⟩ = (⟨#[104, 101, 108, 108, 111, 33]⟩, 0) := text_file (x := v19) a19_may3 (by simp) rfl rfl
theorem a19_6 : fsGet [t19, v19] ⟨#[97]⟩ = (t19, 0) := get_mem a19_may3 (by simp) rfl
set_option maxHeartbeats 3200000 in
theorem awake19_walk (t u v : Nd) (w : World)
    (htwo : ∀ W : World, Calls Try.prog 30 #[] W fun e w' => ∃ A c, e = .returned (.slice A 2 c) ∧ Aside0 (Kd.C kNd w' A 2 [t, u]) ∧ Below W.heap.size W w')
    (h1 : ∀ W : World, Calls Try.prog 12 #[.agg #[.slice none 0 0], .agg #[.string u.f0, .string u.f1, .int .u8 u.f2, .int .i64 u.f3, .int .i64 u.f4, .int .i64 u.f5, .int .i64 u.f6, .string u.f7]] W fun e w' => ∃ (A' : Option Addr) (c' : Nat), e = .returned (.tuple #[.agg #[.slice A' 0 c'], .int .i64 9]) ∧ Aside0 (Kd.R kNd 26 w' W.heap.size (fun _ => True) (.slice A' 0 c') []) ∧ Below W.heap.size W w')
    (h2 : ∀ W : World, Calls Try.prog 12 #[.agg #[.slice none 0 0], .agg #[.string t.f0, .string t.f1, .int .u8 t.f2, .int .i64 t.f3, .int .i64 t.f4, .int .i64 t.f5, .int .i64 t.f6, .string t.f7]] W fun e w' => ∃ (A' : Option Addr) (c' : Nat), e = .returned (.tuple #[.agg #[.slice A' 1 c'], .int .i64 0]) ∧ Aside0 (Kd.R kNd 26 w' W.heap.size (fun _ => True) (.slice A' 1 c') [t]) ∧ Below W.heap.size W w')
    (h3 : ∀ (W : World) A c, Kd.C kNd W A 1 [t] → Calls Try.prog 12 #[.agg #[.slice A 1 c], .agg #[.string u.f0, .string u.f1, .int .u8 u.f2, .int .i64 u.f3, .int .i64 u.f4, .int .i64 u.f5, .int .i64 u.f6, .string u.f7]] W fun e w' => ∃ (A' : Option Addr) (c' : Nat), e = .returned (.tuple #[.agg #[.slice A' 2 c'], .int .i64 0]) ∧ Aside0 (Kd.R kNd 26 w' W.heap.size (fun _ => True) (.slice A' 2 c') [t, u]) ∧ Below W.heap.size W w')
    (h4 : ∀ (W : World) A c, Kd.C kNd W A 2 [t, u] → Calls Try.prog 14 #[.agg #[.slice A 2 c], .string ⟨#[97, 47, 98]⟩, .string ⟨#[33]⟩] W fun e w' => ∃ (A' : Option Addr) (c' : Nat), e = .returned (.tuple #[.agg #[.slice A' 2 c'], .int .i64 0]) ∧ Aside0 (Kd.R kNd 26 w' W.heap.size (fun _ => True) (.slice A' 2 c') [t, v]) ∧ Below W.heap.size W w')
    (h5 : ∀ (W : World) A c, Kd.C kNd W A 2 [t, v] → Calls Try.prog 18 #[.agg #[.slice A 2 c], .string ⟨#[97, 47, 98]⟩] W fun e w' => e = .returned (.tuple #[.string ⟨#[104, 101, 108, 108, 111, 33]⟩, .int .i64 0]) ∧ Below W.heap.size W w')
    (h6 : ∀ (W : World) A c, Kd.C kNd W A 2 [t, v] → Calls Try.prog 16 #[.agg #[.slice A 2 c], .string ⟨#[97]⟩] W fun e w' => e = .returned (.tuple #[.agg #[.string t.f0, .string t.f1, .int .u8 t.f2, .int .i64 t.f3, .int .i64 t.f4, .int .i64 t.f5, .int .i64 t.f6, .string t.f7], .int .i64 0]) ∧ Below W.heap.size W w')
    (h7 : ∀ (W : World) A c, Kd.C kNd W A 2 [t, v] → Calls Try.prog 22 #[.agg #[.slice A 2 c]] W fun e w' => e = .returned (.bool true) ∧ Below W.heap.size W w')
    (h8 : ∀ (W : World) A c, Kd.C kNd W A 2 [t, v] → 2 ≤ c → Calls Try.prog 23 #[.agg #[.slice A 2 c], .agg #[.slice A 2 c]] W fun e w' => e = .returned (.bool true) ∧ Below W.heap.size W w') :
    Calls Try.prog 9 #[] w fun e w' => e = .returned (.bool true) ∧ Below w.heap.size w w' := by
  have HB0 := Aside0.mk (Below.refl w.heap.size w)
  go_enter Try.func9, Try.ntmps9
  go_upto_region 2 with (go_at_call 30; refine (htwo _).mono ?_; rintro e w1 ⟨AT, cT, rfl, HT1, hb⟩; have HB1 := Aside0.mk (below_step HB0.out hb); clear hb)
  obtain ⟨ad, rfl, t0, t1, t2, t3, t4, t5, t6, t7⟩ := nd_cells (i := 0) HT1.out (by decide) t rfl
  obtain ⟨_, e_, u0, u1, u2, u3, u4, u5, u6, u7⟩ := nd_cells (i := 1) HT1.out (by decide) u rfl
  obtain rfl := Option.some.inj e_
  clear e_
  have t0 : w1.cell? ad = some (.string t.f0) := t0
  have t1 : w1.cell? ⟨ad.block, ad.off + 1, none⟩ = some (.string t.f1) := t1
  have t2 : w1.cell? ⟨ad.block, ad.off + 2, none⟩ = some (.int .u8 t.f2) := t2
  have t3 : w1.cell? ⟨ad.block, ad.off + 3, none⟩ = some (.int .i64 t.f3) := t3
  have t4 : w1.cell? ⟨ad.block, ad.off + 4, none⟩ = some (.int .i64 t.f4) := t4
  have t5 : w1.cell? ⟨ad.block, ad.off + 5, none⟩ = some (.int .i64 t.f5) := t5
  have t6 : w1.cell? ⟨ad.block, ad.off + 6, none⟩ = some (.int .i64 t.f6) := t6
  have t7 : w1.cell? ⟨ad.block, ad.off + 7, none⟩ = some (.string t.f7) := t7
  have u0 : w1.cell? ⟨ad.block, ad.off + 8, none⟩ = some (.string u.f0) := u0
  have u1 : w1.cell? ⟨ad.block, ad.off + 8 + 1, none⟩ = some (.string u.f1) := u1
  have u2 : w1.cell? ⟨ad.block, ad.off + 8 + 2, none⟩ = some (.int .u8 u.f2) := u2
  have u3 : w1.cell? ⟨ad.block, ad.off + 8 + 3, none⟩ = some (.int .i64 u.f3) := u3
  have u4 : w1.cell? ⟨ad.block, ad.off + 8 + 4, none⟩ = some (.int .i64 u.f4) := u4
  have u5 : w1.cell? ⟨ad.block, ad.off + 8 + 5, none⟩ = some (.int .i64 u.f5) := u5
  have u6 : w1.cell? ⟨ad.block, ad.off + 8 + 6, none⟩ = some (.int .i64 u.f6) := u6
  have u7 : w1.cell? ⟨ad.block, ad.off + 8 + 7, none⟩ = some (.string u.f7) := u7
  go_upto_region 3 with (go_at_call 12; refine (h1 _).mono ?_; rintro e w2 ⟨AX, cX, rfl, _, hb⟩; have HB2 := Aside0.mk (below_alloc (below_step HB1.out hb) (.cells #[.slice AX 0 cX] 24)); have HT2 := Aside0.mk (Kd.C_alloc (Kd.C_below HT1.out hb) (.cells #[.slice AX 0 cX] 24)); clear hb t0 t1 t2 t3 t4 t5 t6 t7 u0 u1 u2 u3 u4 u5 u6 u7)
  obtain ⟨W2, hW2⟩ : ∃ W, w2.alloc (.cells #[.slice AX 0 cX] 24) = W := ⟨_, rfl⟩
  rw [hW2] at HB2 HT2 ⊢
  clear hW2
  obtain ⟨_, e_, t0, t1, t2, t3, t4, t5, t6, t7⟩ := nd_cells (i := 0) HT2.out (by decide) t rfl
  obtain rfl := Option.some.inj e_
  clear e_
  obtain ⟨_, e_, u0, u1, u2, u3, u4, u5, u6, u7⟩ := nd_cells (i := 1) HT2.out (by decide) u rfl
  obtain rfl := Option.some.inj e_
  clear e_
  have t0 : W2.cell? ad = some (.string t.f0) := t0
  have t1 : W2.cell? ⟨ad.block, ad.off + 1, none⟩ = some (.string t.f1) := t1
  have t2 : W2.cell? ⟨ad.block, ad.off + 2, none⟩ = some (.int .u8 t.f2) := t2
  have t3 : W2.cell? ⟨ad.block, ad.off + 3, none⟩ = some (.int .i64 t.f3) := t3
  have t4 : W2.cell? ⟨ad.block, ad.off + 4, none⟩ = some (.int .i64 t.f4) := t4
  have t5 : W2.cell? ⟨ad.block, ad.off + 5, none⟩ = some (.int .i64 t.f5) := t5
  have t6 : W2.cell? ⟨ad.block, ad.off + 6, none⟩ = some (.int .i64 t.f6) := t6
  have t7 : W2.cell? ⟨ad.block, ad.off + 7, none⟩ = some (.string t.f7) := t7
  have u0 : W2.cell? ⟨ad.block, ad.off + 8, none⟩ = some (.string u.f0) := u0
  have u1 : W2.cell? ⟨ad.block, ad.off + 8 + 1, none⟩ = some (.string u.f1) := u1
  have u2 : W2.cell? ⟨ad.block, ad.off + 8 + 2, none⟩ = some (.int .u8 u.f2) := u2
  have u3 : W2.cell? ⟨ad.block, ad.off + 8 + 3, none⟩ = some (.int .i64 u.f3) := u3
  have u4 : W2.cell? ⟨ad.block, ad.off + 8 + 4, none⟩ = some (.int .i64 u.f4) := u4
  have u5 : W2.cell? ⟨ad.block, ad.off + 8 + 5, none⟩ = some (.int .i64 u.f5) := u5
  have u6 : W2.cell? ⟨ad.block, ad.off + 8 + 6, none⟩ = some (.int .i64 u.f6) := u6
  have u7 : W2.cell? ⟨ad.block, ad.off + 8 + 7, none⟩ = some (.string u.f7) := u7
  go_upto_region 4 with (go_at_call 12; refine (h2 _).mono ?_; rintro e w3 ⟨A3, c3, rfl, HC3, hb⟩; have HB3 := Aside0.mk (below_alloc (below_step HB2.out hb) (.cells #[.slice A3 1 c3] 24)); have HT3 := Aside0.mk (Kd.C_alloc (Kd.C_below HT2.out hb) (.cells #[.slice A3 1 c3] 24)); have HSZ := Aside0.mk (below_step HB2.out hb).size; have HF3 := Aside0.mk (heap_alloc_new w3 (.cells #[.slice A3 1 c3] 24)); have HC3 := Aside0.mk (Kd.R_alloc HC3.out (.cells #[.slice A3 1 c3] 24)); clear hb t0 t1 t2 t3 t4 t5 t6 t7 u0 u1 u2 u3 u4 u5 u6 u7)
  obtain ⟨W3, hW3⟩ : ∃ W, w3.alloc (.cells #[.slice A3 1 c3] 24) = W := ⟨_, rfl⟩
  rw [hW3] at HB3 HT3 HF3 HC3 ⊢
  clear hW3
  obtain ⟨_, e_, t0, t1, t2, t3, t4, t5, t6, t7⟩ := nd_cells (i := 0) HT3.out (by decide) t rfl
  obtain rfl := Option.some.inj e_
  clear e_
  obtain ⟨_, e_, u0, u1, u2, u3, u4, u5, u6, u7⟩ := nd_cells (i := 1) HT3.out (by decide) u rfl
  obtain rfl := Option.some.inj e_
  clear e_
  have t0 : W3.cell? ad = some (.string t.f0) := t0
  have t1 : W3.cell? ⟨ad.block, ad.off + 1, none⟩ = some (.string t.f1) := t1
  have t2 : W3.cell? ⟨ad.block, ad.off + 2, none⟩ = some (.int .u8 t.f2) := t2
  have t3 : W3.cell? ⟨ad.block, ad.off + 3, none⟩ = some (.int .i64 t.f3) := t3
  have t4 : W3.cell? ⟨ad.block, ad.off + 4, none⟩ = some (.int .i64 t.f4) := t4
  have t5 : W3.cell? ⟨ad.block, ad.off + 5, none⟩ = some (.int .i64 t.f5) := t5
  have t6 : W3.cell? ⟨ad.block, ad.off + 6, none⟩ = some (.int .i64 t.f6) := t6
  have t7 : W3.cell? ⟨ad.block, ad.off + 7, none⟩ = some (.string t.f7) := t7
  have u0 : W3.cell? ⟨ad.block, ad.off + 8, none⟩ = some (.string u.f0) := u0
  have u1 : W3.cell? ⟨ad.block, ad.off + 8 + 1, none⟩ = some (.string u.f1) := u1
  have u2 : W3.cell? ⟨ad.block, ad.off + 8 + 2, none⟩ = some (.int .u8 u.f2) := u2
  have u3 : W3.cell? ⟨ad.block, ad.off + 8 + 3, none⟩ = some (.int .i64 u.f3) := u3
  have u4 : W3.cell? ⟨ad.block, ad.off + 8 + 4, none⟩ = some (.int .i64 u.f4) := u4
  have u5 : W3.cell? ⟨ad.block, ad.off + 8 + 5, none⟩ = some (.int .i64 u.f5) := u5
  have u6 : W3.cell? ⟨ad.block, ad.off + 8 + 6, none⟩ = some (.int .i64 u.f6) := u6
  have u7 : W3.cell? ⟨ad.block, ad.off + 8 + 7, none⟩ = some (.string u.f7) := u7
  have zf := (blk_cell HF3.out 0).trans (show _ = some (Value.slice A3 1 c3) from rfl)
  refine start_ (n := 10) (S := fun w' => w'.cell? ⟨w3.heap.size, 0, none⟩ = some (.slice A3 1 c3) ∧ w'.cell? ⟨ad.block, ad.off + 8, none⟩ = some (.string u.f0) ∧ w'.cell? ⟨ad.block, ad.off + 8 + 1, none⟩ = some (.string u.f1) ∧ w'.cell? ⟨ad.block, ad.off + 8 + 2, none⟩ = some (.int .u8 u.f2) ∧ w'.cell? ⟨ad.block, ad.off + 8 + 3, none⟩ = some (.int .i64 u.f3) ∧ w'.cell? ⟨ad.block, ad.off + 8 + 4, none⟩ = some (.int .i64 u.f4) ∧ w'.cell? ⟨ad.block, ad.off + 8 + 5, none⟩ = some (.int .i64 u.f5) ∧ w'.cell? ⟨ad.block, ad.off + 8 + 6, none⟩ = some (.int .i64 u.f6) ∧ w'.cell? ⟨ad.block, ad.off + 8 + 7, none⟩ = some (.string u.f7)) (ds := [8]) #[false, false, false, false, false, false, false, false, false, false] (by kernel_rfl) rfl rfl ⟨zf, u0, u1, u2, u3, u4, u5, u6, u7⟩ (fun hHeld => ?_)
  refine take_ (i := 0) (N := some 30) (v := ?_) (a' := ?_) #[true, false, false, false, false, false, false, false, false, false] rfl rfl (by kernel_rfl) (fun _ _ _ h => h) (Or.inl ⟨by rfl, ?_⟩) hHeld ?_ ?_
  rotate_left
  · rintro w' ⟨s0, s1, s2, s3, s4, s5, s6, s7, s8⟩
    go_simp
    with_reducible rfl
  rotate_left
  · simp only [Act.put, List.setIfInBounds_toArray, List.set_cons_zero, List.set_cons_succ, i64_w, i32_w]
    rfl
  refine pure_ (i := 1) (N := some 31) (v := ?_) (a' := ?_) #[true, true, false, false, false, false, false, false, false, false] rfl rfl (by kernel_rfl) (fun _ _ _ h => h) (Or.inl ⟨by rfl, ?_⟩) ?_ ?_
  rotate_left
  · intro w'
    go_simp
    with_reducible rfl
  rotate_left
  · simp only [Act.put, List.setIfInBounds_toArray, List.set_cons_zero, List.set_cons_succ, i64_w, i32_w]
    rfl
  refine pure_ (i := 2) (N := some 32) (v := ?_) (a' := ?_) #[true, true, true, false, false, false, false, false, false, false] rfl rfl (by kernel_rfl) (fun _ _ _ h => h) (Or.inl ⟨by rfl, ?_⟩) ?_ ?_
  rotate_left
  · intro w'
    go_simp
    with_reducible rfl
  rotate_left
  · simp only [Act.put, List.setIfInBounds_toArray, List.set_cons_zero, List.set_cons_succ, i64_w, i32_w]
    rfl
  refine take_ (i := 3) (N := some 33) (v := ?_) (a' := ?_) #[true, true, true, true, false, false, false, false, false, false] rfl rfl (by kernel_rfl) (fun _ _ _ h => h) (Or.inl ⟨by rfl, ?_⟩) hHeld ?_ ?_
  rotate_left
  · rintro w' ⟨s0, s1, s2, s3, s4, s5, s6, s7, s8⟩
    go_simp
    with_reducible rfl
  rotate_left
  · simp only [Act.put, List.setIfInBounds_toArray, List.set_cons_zero, List.set_cons_succ, i64_w, i32_w]
    rfl
  refine one_ (i := 4) (N := some 34) #[true, true, true, true, true, false, false, false, false, false] rfl rfl (by kernel_rfl) (by decide) (fun K hK => ?_)
  refine goes_ Try.func12 (by kernel_rfl) rfl #[.agg #[.slice A3 1 c3], .agg #[.string u.f0, .string u.f1, .int .u8 u.f2, .int .i64 u.f3, .int .i64 u.f4, .int .i64 u.f5, .int .i64 u.f6, .string u.f7]] (by rfl) rfl rfl (by (try simp only [List.map_toArray, List.map_cons, List.map_nil]); first | done | rfl | (simp only [List.length_drop, List.length_take]; rfl)) ?_
  refine (h3 _ _ _ (Kd.R_reads' (Kd.R_drew HC3.out)).2.2).mono ?_
  rintro e w4 ⟨A4, c4, rfl, HC4, hb⟩
  have HB4 := Aside0.mk (below_step (below_drew1 HB3.out) hb)
  have HT4 := Aside0.mk (Kd.C_below (Kd.C_drew HT3.out) hb)
  have HF4 := Aside0.mk (blk_below (blk_drew HF3.out) hb)
  have hbk := fun {p v} (h : W3.drew.cell? p = some v) => pw_cell_below hb h
  clear hb
  refine ⟨_, rfl, ?_⟩
  refine hK.out _ _ ⟨(blk_cell HF4.out 0).trans rfl, hbk u0, hbk u1, hbk u2, hbk u3, hbk u4, hbk u5, hbk u6, hbk u7⟩ (fun hHeld => ?_)
  clear hK K
  refine norm_ (a' := ?_) ?_ ?_
  rotate_left
  · show Act.put _ (some 34) _ = _
    simp only [Act.put, List.setIfInBounds_toArray, List.set_cons_zero, List.set_cons_succ, i64_w, i32_w]
    rfl
  refine pure_ (i := 5) (N := some 29) (v := ?_) (a' := ?_) #[true, true, true, true, true, true, false, false, false, false] rfl rfl (by kernel_rfl) (fun _ _ _ h => h) (Or.inl ⟨by rfl, ?_⟩) ?_ ?_
  rotate_left
  · intro w'
    go_simp
    with_reducible rfl
  rotate_left
  · simp only [Act.put, List.setIfInBounds_toArray, List.set_cons_zero, List.set_cons_succ, i64_w, i32_w]
    rfl
  refine pure_ (i := 6) (N := some 35) (v := ?_) (a' := ?_) #[true, true, true, true, true, true, true, false, false, false] rfl rfl (by kernel_rfl) (fun _ _ _ h => h) (Or.inl ⟨by rfl, ?_⟩) ?_ ?_
  rotate_left
  · intro w'
    go_simp
    with_reducible rfl
  rotate_left
  · simp only [Act.put, List.setIfInBounds_toArray, List.set_cons_zero, List.set_cons_succ, i64_w, i32_w]
    rfl
  refine pure_ (i := 7) (N := some 36) (v := ?_) (a' := ?_) #[true, true, true, true, true, true, true, true, false, false] rfl rfl (by kernel_rfl) (fun _ _ _ h => h) (Or.inl ⟨by rfl, ?_⟩) ?_ ?_
  rotate_left
  · intro w'
    go_simp
    with_reducible rfl
  rotate_left
  · simp only [Act.put, List.setIfInBounds_toArray, List.set_cons_zero, List.set_cons_succ, i64_w, i32_w]
    rfl
  have z4 := (blk_cell HF4.out 0).trans (show _ = some (Value.slice A3 1 c3) from rfl)
  have y4 := blk_frozen HF4.out 0
  clear hbk
  refine last_ (i := 8) (N := none) #[true, true, true, true, true, true, true, true, true, false] rfl rfl (by kernel_rfl) (by decide) (fun K hK => ?_)
  rw [if_pos (by rfl)]
  go_simp
  refine hK.out _ _ ?_
  clear hK K
  refine pure_ (i := 9) (N := some 6) (v := ?_) (a' := ?_) #[true, true, true, true, true, true, true, true, true, true] rfl rfl (by kernel_rfl) (fun _ _ _ h => h) (Or.inl ⟨by rfl, ?_⟩) ?_ ?_
  rotate_left
  · intro w'
    go_simp
    with_reducible rfl
  rotate_left
  · simp only [Act.put, List.setIfInBounds_toArray, List.set_cons_zero, List.set_cons_succ, i64_w, i32_w]
    rfl
  refine done_ (by kernel_rfl) ?_
  have HB5 := Aside0.mk (HB4.out.setCell (p := ⟨w3.heap.size, 0, none⟩) HSZ.out (.slice A4 2 c4))
  have HC5 := Aside0.mk (R_past HC4.out HF4.out (.slice A4 2 c4))
  have HT5 := Aside0.mk (C_past HT4.out HF4.out (by decide) (.slice A4 2 c4))
  have HF5 := Aside0.mk (blk_put HF4.out 0 (.slice A4 2 c4) rfl)
  obtain ⟨W5, hW5⟩ : ∃ W, w4.setCell ⟨w3.heap.size, 0, none⟩ (.slice A4 2 c4) = W := ⟨_, rfl⟩
  rw [hW5] at HB5 HC5 HT5 HF5 ⊢
  clear hW5 HB4 HC4 HT4 HF4 zf t0 t1 t2 t3 t4 t5 t6 t7 u0 u1 u2 u3 u4 u5 u6 u7 z4 y4
  have zf := (blk_cell HF5.out 0).trans (show _ = some (Value.slice A4 2 c4) from rfl)
  go_upto_region 6 with (go_at_call 14; refine (h4 _ _ _ (Kd.R_reads' HC5.out).2.2).mono ?_; rintro e w6 ⟨A6, c6, rfl, HC6, hb⟩; have HB6 := Aside0.mk (below_step HB5.out hb); have HT6 := Aside0.mk (Kd.C_below HT5.out hb); have HF6 := Aside0.mk (blk_below HF5.out hb); clear hb; have z6 := (blk_cell HF6.out 0).trans (show _ = some (Value.slice A4 2 c4) from rfl); have y6 := blk_frozen HF6.out 0)
  have HB7 := Aside0.mk (HB6.out.setCell (p := ⟨w3.heap.size, 0, none⟩) HSZ.out (.slice A6 2 c6))
  have HC7 := Aside0.mk (R_past HC6.out HF6.out (.slice A6 2 c6))
  have HT7 := Aside0.mk (C_past HT6.out HF6.out (by decide) (.slice A6 2 c6))
  have HF7 := Aside0.mk (blk_put HF6.out 0 (.slice A6 2 c6) rfl)
  obtain ⟨W7, hW7⟩ : ∃ W, w6.setCell ⟨w3.heap.size, 0, none⟩ (.slice A6 2 c6) = W := ⟨_, rfl⟩
  rw [hW7] at HB7 HC7 HT7 HF7 ⊢
  clear hW7 HB6 HC6 HT6 HF6 zf z6 y6
  have zf := (blk_cell HF7.out 0).trans (show _ = some (Value.slice A6 2 c6) from rfl)
  go_upto_region 7 with (go_at_call 18; refine (h5 _ _ _ (Kd.R_reads' HC7.out).2.2).mono ?_; rintro e w8 ⟨rfl, hb⟩; have HB8 := Aside0.mk (below_step HB7.out hb); have HT8 := Aside0.mk (Kd.C_below HT7.out hb); have HF8 := Aside0.mk (blk_below HF7.out hb); have HC8 := Aside0.mk (Kd.R_below HC7.out hb); clear hb zf; have zf := (blk_cell HF8.out 0).trans (show _ = some (Value.slice A6 2 c6) from rfl))
  go_upto_region 8 with (go_at_call 16; refine (h6 _ _ _ (Kd.R_reads' HC8.out).2.2).mono ?_; rintro e w9 ⟨rfl, hb⟩; have HB9 := Aside0.mk (below_alloc (below_step HB8.out hb) (.cells #[.string t.f0, .string t.f1, .int .u8 t.f2, .int .i64 t.f3, .int .i64 t.f4, .int .i64 t.f5, .int .i64 t.f6, .string t.f7] 26)); have HT9 := Aside0.mk (Kd.C_alloc (Kd.C_below HT8.out hb) (.cells #[.string t.f0, .string t.f1, .int .u8 t.f2, .int .i64 t.f3, .int .i64 t.f4, .int .i64 t.f5, .int .i64 t.f6, .string t.f7] 26)); have HF9 := Aside0.mk (blk_alloc (blk_below HF8.out hb) (.cells #[.string t.f0, .string t.f1, .int .u8 t.f2, .int .i64 t.f3, .int .i64 t.f4, .int .i64 t.f5, .int .i64 t.f6, .string t.f7] 26)); have HC9 := Aside0.mk (Kd.R_alloc (Kd.R_below HC8.out hb) (.cells #[.string t.f0, .string t.f1, .int .u8 t.f2, .int .i64 t.f3, .int .i64 t.f4, .int .i64 t.f5, .int .i64 t.f6, .string t.f7] 26)); have HN9 := Aside0.mk (heap_alloc_new w9 (.cells #[.string t.f0, .string t.f1, .int .u8 t.f2, .int .i64 t.f3, .int .i64 t.f4, .int .i64 t.f5, .int .i64 t.f6, .string t.f7] 26)); clear hb zf)
  obtain ⟨W9, hW9⟩ : ∃ W, w9.alloc (.cells #[.string t.f0, .string t.f1, .int .u8 t.f2, .int .i64 t.f3, .int .i64 t.f4, .int .i64 t.f5, .int .i64 t.f6, .string t.f7] 26) = W := ⟨_, rfl⟩
  rw [hW9] at HB9 HT9 HF9 HC9 HN9 ⊢
  clear hW9
  have zf := (blk_cell HF9.out 0).trans (show _ = some (Value.slice A6 2 c6) from rfl)
  obtain ⟨zn0, zn1, zn2, zn3, zn4, zn5, zn6, zn7⟩ := cells8 HN9.out
  have HLc := Aside0.mk (Kd.R_reads' HC9.out).2.1
  obtain ⟨_, e_, t0, t1, t2, t3, t4, t5, t6, t7⟩ := nd_cells (i := 0) HT9.out (by decide) t rfl
  obtain rfl := Option.some.inj e_
  clear e_
  obtain ⟨_, e_, u0, u1, u2, u3, u4, u5, u6, u7⟩ := nd_cells (i := 1) HT9.out (by decide) u rfl
  obtain rfl := Option.some.inj e_
  clear e_
  have t0 : W9.cell? ad = some (.string t.f0) := t0
  have t1 : W9.cell? ⟨ad.block, ad.off + 1, none⟩ = some (.string t.f1) := t1
  have t2 : W9.cell? ⟨ad.block, ad.off + 2, none⟩ = some (.int .u8 t.f2) := t2
  have t3 : W9.cell? ⟨ad.block, ad.off + 3, none⟩ = some (.int .i64 t.f3) := t3
  have t4 : W9.cell? ⟨ad.block, ad.off + 4, none⟩ = some (.int .i64 t.f4) := t4
  have t5 : W9.cell? ⟨ad.block, ad.off + 5, none⟩ = some (.int .i64 t.f5) := t5
  have t6 : W9.cell? ⟨ad.block, ad.off + 6, none⟩ = some (.int .i64 t.f6) := t6
  have t7 : W9.cell? ⟨ad.block, ad.off + 7, none⟩ = some (.string t.f7) := t7
  have u0 : W9.cell? ⟨ad.block, ad.off + 8, none⟩ = some (.string u.f0) := u0
  have u1 : W9.cell? ⟨ad.block, ad.off + 8 + 1, none⟩ = some (.string u.f1) := u1
  have u2 : W9.cell? ⟨ad.block, ad.off + 8 + 2, none⟩ = some (.int .u8 u.f2) := u2
  have u3 : W9.cell? ⟨ad.block, ad.off + 8 + 3, none⟩ = some (.int .i64 u.f3) := u3
  have u4 : W9.cell? ⟨ad.block, ad.off + 8 + 4, none⟩ = some (.int .i64 u.f4) := u4
  have u5 : W9.cell? ⟨ad.block, ad.off + 8 + 5, none⟩ = some (.int .i64 u.f5) := u5
  have u6 : W9.cell? ⟨ad.block, ad.off + 8 + 6, none⟩ = some (.int .i64 u.f6) := u6
  have u7 : W9.cell? ⟨ad.block, ad.off + 8 + 7, none⟩ = some (.string u.f7) := u7
  clear u0 u1 u2 u3 u4 u5 u6 u7
  refine start_ (n := 43) (S := fun w' => w'.cell? ⟨w3.heap.size, 0, none⟩ = some (.slice A6 2 c6) ∧ w'.cell? ⟨w9.heap.size, 0, none⟩ = some (.string t.f0) ∧ w'.cell? ⟨w9.heap.size, 1, none⟩ = some (.string t.f1) ∧ w'.cell? ⟨w9.heap.size, 2, none⟩ = some (.int .u8 t.f2) ∧ w'.cell? ⟨w9.heap.size, 3, none⟩ = some (.int .i64 t.f3) ∧ w'.cell? ⟨w9.heap.size, 4, none⟩ = some (.int .i64 t.f4) ∧ w'.cell? ⟨w9.heap.size, 5, none⟩ = some (.int .i64 t.f5) ∧ w'.cell? ⟨w9.heap.size, 6, none⟩ = some (.int .i64 t.f6) ∧ w'.cell? ⟨w9.heap.size, 7, none⟩ = some (.string t.f7) ∧ w'.cell? ad = some (.string t.f0) ∧ w'.cell? ⟨ad.block, ad.off + 1, none⟩ = some (.string t.f1) ∧ w'.cell? ⟨ad.block, ad.off + 2, none⟩ = some (.int .u8 t.f2) ∧ w'.cell? ⟨ad.block, ad.off + 3, none⟩ = some (.int .i64 t.f3) ∧ w'.cell? ⟨ad.block, ad.off + 4, none⟩ = some (.int .i64 t.f4) ∧ w'.cell? ⟨ad.block, ad.off + 5, none⟩ = some (.int .i64 t.f5) ∧ w'.cell? ⟨ad.block, ad.off + 6, none⟩ = some (.int .i64 t.f6) ∧ w'.cell? ⟨ad.block, ad.off + 7, none⟩ = some (.string t.f7)) (ds := []) #[false, false, false, false, false, false, false, false, false, false, false, false, false, false, false, false, false, false, false, false, false, false, false, false, false, false, false, false, false, false, false, false, false, false, false, false, false, false, false, false, false, false, false] (by kernel_rfl) rfl rfl ⟨zf, zn0, zn1, zn2, zn3, zn4, zn5, zn6, zn7, t0, t1, t2, t3, t4, t5, t6, t7⟩ (fun hHeld => ?_)
  refine pure_ (i := 0) (N := some 52) (v := ?_) (a' := ?_) #[true, false, false, false, false, false, false, false, false, false, false, false, false, false, false, false, false, false, false, false, false, false, false, false, false, false, false, false, false, false, false, false, false, false, false, false, false, false, false, false, false, false, false] rfl rfl (by kernel_rfl) (fun _ _ _ h => h) (Or.inl ⟨by rfl, ?_⟩) ?_ ?_
  rotate_left
  · intro w'
    go_simp
    with_reducible rfl
  rotate_left
  · simp only [Act.put, List.setIfInBounds_toArray, List.set_cons_zero, List.set_cons_succ, i64_w, i32_w]
    rfl
  refine pure_ (i := 1) (N := some 53) (v := ?_) (a' := ?_) #[true, true, false, false, false, false, false, false, false, false, false, false, false, false, false, false, false, false, false, false, false, false, false, false, false, false, false, false, false, false, false, false, false, false, false, false, false, false, false, false, false, false, false] rfl rfl (by kernel_rfl) (fun _ _ _ h => h) (Or.inl ⟨by rfl, ?_⟩) ?_ ?_
  rotate_left
  · intro w'
    go_simp
    with_reducible rfl
  rotate_left
  · simp only [Act.put, List.setIfInBounds_toArray, List.set_cons_zero, List.set_cons_succ, i64_w, i32_w]
    rfl
  refine pure_ (i := 2) (N := some 54) (v := ?_) (a' := ?_) #[true, true, true, false, false, false, false, false, false, false, false, false, false, false, false, false, false, false, false, false, false, false, false, false, false, false, false, false, false, false, false, false, false, false, false, false, false, false, false, false, false, false, false] rfl rfl (by kernel_rfl) (fun _ _ _ h => h) (Or.inl ⟨by rfl, ?_⟩) ?_ ?_
  rotate_left
  · intro w'
    go_simp
    with_reducible rfl
  rotate_left
  · simp only [Act.put, List.setIfInBounds_toArray, List.set_cons_zero, List.set_cons_succ, i64_w, i32_w]
    rfl
  refine pure_ (i := 3) (N := some 55) (v := ?_) (a' := ?_) #[true, true, true, true, false, false, false, false, false, false, false, false, false, false, false, false, false, false, false, false, false, false, false, false, false, false, false, false, false, false, false, false, false, false, false, false, false, false, false, false, false, false, false] rfl rfl (by kernel_rfl) (fun _ _ _ h => h) (Or.inl ⟨by rfl, ?_⟩) ?_ ?_
  rotate_left
  · intro w'
    go_simp
    with_reducible rfl
  rotate_left
  · simp only [Act.put, List.setIfInBounds_toArray, List.set_cons_zero, List.set_cons_succ, i64_w, i32_w]
    rfl
  refine pure_ (i := 4) (N := some 56) (v := ?_) (a' := ?_) #[true, true, true, true, true, false, false, false, false, false, false, false, false, false, false, false, false, false, false, false, false, false, false, false, false, false, false, false, false, false, false, false, false, false, false, false, false, false, false, false, false, false, false] rfl rfl (by kernel_rfl) (fun _ _ _ h => h) (Or.inl ⟨by rfl, ?_⟩) ?_ ?_
  rotate_left
  · intro w'
    go_simp
    with_reducible rfl
  rotate_left
  · simp only [Act.put, List.setIfInBounds_toArray, List.set_cons_zero, List.set_cons_succ, i64_w, i32_w]
    rfl
  refine pure_ (i := 5) (N := some 57) (v := ?_) (a' := ?_) #[true, true, true, true, true, true, false, false, false, false, false, false, false, false, false, false, false, false, false, false, false, false, false, false, false, false, false, false, false, false, false, false, false, false, false, false, false, false, false, false, false, false, false] rfl rfl (by kernel_rfl) (fun _ _ _ h => h) (Or.inl ⟨by rfl, ?_⟩) ?_ ?_
  rotate_left
  · intro w'
    go_simp
    with_reducible rfl
  rotate_left
  · simp only [Act.put, List.setIfInBounds_toArray, List.set_cons_zero, List.set_cons_succ, i64_w, i32_w]
    rfl
  refine pure_ (i := 6) (N := some 58) (v := ?_) (a' := ?_) #[true, true, true, true, true, true, true, false, false, false, false, false, false, false, false, false, false, false, false, false, false, false, false, false, false, false, false, false, false, false, false, false, false, false, false, false, false, false, false, false, false, false, false] rfl rfl (by kernel_rfl) (fun _ _ _ h => h) (Or.inl ⟨by rfl, ?_⟩) ?_ ?_
  rotate_left
  · intro w'
    go_simp
    with_reducible rfl
  rotate_left
  · simp only [Act.put, List.setIfInBounds_toArray, List.set_cons_zero, List.set_cons_succ, i64_w, i32_w]
    rfl
  refine pure_ (i := 7) (N := some 59) (v := ?_) (a' := ?_) #[true, true, true, true, true, true, true, true, false, false, false, false, false, false, false, false, false, false, false, false, false, false, false, false, false, false, false, false, false, false, false, false, false, false, false, false, false, false, false, false, false, false, false] rfl rfl (by kernel_rfl) (fun _ _ _ h => h) (Or.inl ⟨by rfl, ?_⟩) ?_ ?_
  rotate_left
  · intro w'
    go_simp
    with_reducible rfl
  rotate_left
  · simp only [Act.put, List.setIfInBounds_toArray, List.set_cons_zero, List.set_cons_succ, i64_w, i32_w]
    rfl
  refine pure_ (i := 8) (N := some 60) (v := ?_) (a' := ?_) #[true, true, true, true, true, true, true, true, true, false, false, false, false, false, false, false, false, false, false, false, false, false, false, false, false, false, false, false, false, false, false, false, false, false, false, false, false, false, false, false, false, false, false] rfl rfl (by kernel_rfl) (fun _ _ _ h => h) (Or.inl ⟨by rfl, ?_⟩) ?_ ?_
  rotate_left
  · intro w'
    go_simp
    with_reducible rfl
  rotate_left
  · simp only [Act.put, List.setIfInBounds_toArray, List.set_cons_zero, List.set_cons_succ, i64_w, i32_w]
    rfl
  refine pure_ (i := 9) (N := some 61) (v := ?_) (a' := ?_) #[true, true, true, true, true, true, true, true, true, true, false, false, false, false, false, false, false, false, false, false, false, false, false, false, false, false, false, false, false, false, false, false, false, false, false, false, false, false, false, false, false, false, false] rfl rfl (by kernel_rfl) (fun _ _ _ h => h) (Or.inl ⟨by rfl, ?_⟩) ?_ ?_
  rotate_left
  · intro w'
    go_simp
    with_reducible rfl
  rotate_left
  · simp only [Act.put, List.setIfInBounds_toArray, List.set_cons_zero, List.set_cons_succ, i64_w, i32_w]
    rfl
  refine pure_ (i := 10) (N := some 62) (v := ?_) (a' := ?_) #[true, true, true, true, true, true, true, true, true, true, true, false, false, false, false, false, false, false, false, false, false, false, false, false, false, false, false, false, false, false, false, false, false, false, false, false, false, false, false, false, false, false, false] rfl rfl (by kernel_rfl) (fun _ _ _ h => h) (Or.inl ⟨by rfl, ?_⟩) ?_ ?_
  rotate_left
  · intro w'
    go_simp
    with_reducible rfl
  rotate_left
  · simp only [Act.put, List.setIfInBounds_toArray, List.set_cons_zero, List.set_cons_succ, i64_w, i32_w]
    rfl
  refine pure_ (i := 11) (N := some 63) (v := ?_) (a' := ?_) #[true, true, true, true, true, true, true, true, true, true, true, true, false, false, false, false, false, false, false, false, false, false, false, false, false, false, false, false, false, false, false, false, false, false, false, false, false, false, false, false, false, false, false] rfl rfl (by kernel_rfl) (fun _ _ _ h => h) (Or.inl ⟨by rfl, ?_⟩) ?_ ?_
  rotate_left
  · intro w'
    go_simp
    with_reducible rfl
  rotate_left
  · simp only [Act.put, List.setIfInBounds_toArray, List.set_cons_zero, List.set_cons_succ, i64_w, i32_w]
    rfl
  refine pure_ (i := 12) (N := some 64) (v := ?_) (a' := ?_) #[true, true, true, true, true, true, true, true, true, true, true, true, true, false, false, false, false, false, false, false, false, false, false, false, false, false, false, false, false, false, false, false, false, false, false, false, false, false, false, false, false, false, false] rfl rfl (by kernel_rfl) (fun _ _ _ h => h) (Or.inl ⟨by rfl, ?_⟩) ?_ ?_
  rotate_left
  · intro w'
    go_simp
    with_reducible rfl
  rotate_left
  · simp only [Act.put, List.setIfInBounds_toArray, List.set_cons_zero, List.set_cons_succ, i64_w, i32_w]
    rfl
  refine pure_ (i := 13) (N := some 65) (v := ?_) (a' := ?_) #[true, true, true, true, true, true, true, true, true, true, true, true, true, true, false, false, false, false, false, false, false, false, false, false, false, false, false, false, false, false, false, false, false, false, false, false, false, false, false, false, false, false, false] rfl rfl (by kernel_rfl) (fun _ _ _ h => h) (Or.inl ⟨by rfl, ?_⟩) ?_ ?_
  rotate_left
  · intro w'
    go_simp
    with_reducible rfl
  rotate_left
  · simp only [Act.put, List.setIfInBounds_toArray, List.set_cons_zero, List.set_cons_succ, i64_w, i32_w]
    rfl
  refine pure_ (i := 14) (N := some 66) (v := ?_) (a' := ?_) #[true, true, true, true, true, true, true, true, true, true, true, true, true, true, true, false, false, false, false, false, false, false, false, false, false, false, false, false, false, false, false, false, false, false, false, false, false, false, false, false, false, false, false] rfl rfl (by kernel_rfl) (fun _ _ _ h => h) (Or.inl ⟨by rfl, ?_⟩) ?_ ?_
  rotate_left
  · intro w'
    go_simp
    with_reducible rfl
  rotate_left
  · simp only [Act.put, List.setIfInBounds_toArray, List.set_cons_zero, List.set_cons_succ, i64_w, i32_w]
    rfl
  refine pure_ (i := 15) (N := some 67) (v := ?_) (a' := ?_) #[true, true, true, true, true, true, true, true, true, true, true, true, true, true, true, true, false, false, false, false, false, false, false, false, false, false, false, false, false, false, false, false, false, false, false, false, false, false, false, false, false, false, false] rfl rfl (by kernel_rfl) (fun _ _ _ h => h) (Or.inl ⟨by rfl, ?_⟩) ?_ ?_
  rotate_left
  · intro w'
    go_simp
    with_reducible rfl
  rotate_left
  · simp only [Act.put, List.setIfInBounds_toArray, List.set_cons_zero, List.set_cons_succ, i64_w, i32_w]
    rfl
  refine pure_ (i := 16) (N := some 68) (v := ?_) (a' := ?_) #[true, true, true, true, true, true, true, true, true, true, true, true, true, true, true, true, true, false, false, false, false, false, false, false, false, false, false, false, false, false, false, false, false, false, false, false, false, false, false, false, false, false, false] rfl rfl (by kernel_rfl) (fun _ _ _ h => h) (Or.inl ⟨by rfl, ?_⟩) ?_ ?_
  rotate_left
  · intro w'
    go_simp
    with_reducible rfl
  rotate_left
  · simp only [Act.put, List.setIfInBounds_toArray, List.set_cons_zero, List.set_cons_succ, i64_w, i32_w]
    rfl
  refine pure_ (i := 17) (N := some 69) (v := ?_) (a' := ?_) #[true, true, true, true, true, true, true, true, true, true, true, true, true, true, true, true, true, true, false, false, false, false, false, false, false, false, false, false, false, false, false, false, false, false, false, false, false, false, false, false, false, false, false] rfl rfl (by kernel_rfl) (fun _ _ _ h => h) (Or.inl ⟨by rfl, ?_⟩) ?_ ?_
  rotate_left
  · intro w'
    go_simp
    with_reducible rfl
  rotate_left
  · simp only [Act.put, List.setIfInBounds_toArray, List.set_cons_zero, List.set_cons_succ, i64_w, i32_w]
    rfl
  refine pure_ (i := 18) (N := some 70) (v := ?_) (a' := ?_) #[true, true, true, true, true, true, true, true, true, true, true, true, true, true, true, true, true, true, true, false, false, false, false, false, false, false, false, false, false, false, false, false, false, false, false, false, false, false, false, false, false, false, false] rfl rfl (by kernel_rfl) (fun _ _ _ h => h) (Or.inl ⟨by rfl, ?_⟩) ?_ ?_
  rotate_left
  · intro w'
    go_simp
    with_reducible rfl
  rotate_left
  · simp only [Act.put, List.setIfInBounds_toArray, List.set_cons_zero, List.set_cons_succ, i64_w, i32_w]
    rfl
  refine pure_ (i := 19) (N := some 71) (v := ?_) (a' := ?_) #[true, true, true, true, true, true, true, true, true, true, true, true, true, true, true, true, true, true, true, true, false, false, false, false, false, false, false, false, false, false, false, false, false, false, false, false, false, false, false, false, false, false, false] rfl rfl (by kernel_rfl) (fun _ _ _ h => h) (Or.inl ⟨by rfl, ?_⟩) ?_ ?_
  rotate_left
  · intro w'
    go_simp
    with_reducible rfl
  rotate_left
  · simp only [Act.put, List.setIfInBounds_toArray, List.set_cons_zero, List.set_cons_succ, i64_w, i32_w]
    rfl
  refine pure_ (i := 20) (N := some 72) (v := ?_) (a' := ?_) #[true, true, true, true, true, true, true, true, true, true, true, true, true, true, true, true, true, true, true, true, true, false, false, false, false, false, false, false, false, false, false, false, false, false, false, false, false, false, false, false, false, false, false] rfl rfl (by kernel_rfl) (fun _ _ _ h => h) (Or.inl ⟨by rfl, ?_⟩) ?_ ?_
  rotate_left
  · intro w'
    go_simp
    with_reducible rfl
  rotate_left
  · simp only [Act.put, List.setIfInBounds_toArray, List.set_cons_zero, List.set_cons_succ, i64_w, i32_w]
    rfl
  refine pure_ (i := 21) (N := some 73) (v := ?_) (a' := ?_) #[true, true, true, true, true, true, true, true, true, true, true, true, true, true, true, true, true, true, true, true, true, true, false, false, false, false, false, false, false, false, false, false, false, false, false, false, false, false, false, false, false, false, false] rfl rfl (by kernel_rfl) (fun _ _ _ h => h) (Or.inl ⟨by rfl, ?_⟩) ?_ ?_
  rotate_left
  · intro w'
    go_simp
    with_reducible rfl
  rotate_left
  · simp only [Act.put, List.setIfInBounds_toArray, List.set_cons_zero, List.set_cons_succ, i64_w, i32_w]
    rfl
  refine pure_ (i := 22) (N := some 74) (v := ?_) (a' := ?_) #[true, true, true, true, true, true, true, true, true, true, true, true, true, true, true, true, true, true, true, true, true, true, true, false, false, false, false, false, false, false, false, false, false, false, false, false, false, false, false, false, false, false, false] rfl rfl (by kernel_rfl) (fun _ _ _ h => h) (Or.inl ⟨by rfl, ?_⟩) ?_ ?_
  rotate_left
  · intro w'
    go_simp
    with_reducible rfl
  rotate_left
  · simp only [Act.put, List.setIfInBounds_toArray, List.set_cons_zero, List.set_cons_succ, i64_w, i32_w]
    rfl
  refine pure_ (i := 23) (N := some 75) (v := ?_) (a' := ?_) #[true, true, true, true, true, true, true, true, true, true, true, true, true, true, true, true, true, true, true, true, true, true, true, true, false, false, false, false, false, false, false, false, false, false, false, false, false, false, false, false, false, false, false] rfl rfl (by kernel_rfl) (fun _ _ _ h => h) (Or.inl ⟨by rfl, ?_⟩) ?_ ?_
  rotate_left
  · intro w'
    go_simp
    with_reducible rfl
  rotate_left
  · simp only [Act.put, List.setIfInBounds_toArray, List.set_cons_zero, List.set_cons_succ, i64_w, i32_w]
    rfl
  refine pure_ (i := 24) (N := some 76) (v := ?_) (a' := ?_) #[true, true, true, true, true, true, true, true, true, true, true, true, true, true, true, true, true, true, true, true, true, true, true, true, true, false, false, false, false, false, false, false, false, false, false, false, false, false, false, false, false, false, false] rfl rfl (by kernel_rfl) (fun _ _ _ h => h) (Or.inl ⟨by rfl, ?_⟩) ?_ ?_
  rotate_left
  · intro w'
    go_simp
    with_reducible rfl
  rotate_left
  · simp only [Act.put, List.setIfInBounds_toArray, List.set_cons_zero, List.set_cons_succ, i64_w, i32_w]
    rfl
  refine pure_ (i := 25) (N := some 77) (v := ?_) (a' := ?_) #[true, true, true, true, true, true, true, true, true, true, true, true, true, true, true, true, true, true, true, true, true, true, true, true, true, true, false, false, false, false, false, false, false, false, false, false, false, false, false, false, false, false, false] rfl rfl (by kernel_rfl) (fun _ _ _ h => h) (Or.inl ⟨by rfl, ?_⟩) ?_ ?_
  rotate_left
  · intro w'
    go_simp
    with_reducible rfl
  rotate_left
  · simp only [Act.put, List.setIfInBounds_toArray, List.set_cons_zero, List.set_cons_succ, i64_w, i32_w]
    rfl
  refine pure_ (i := 26) (N := some 78) (v := ?_) (a' := ?_) #[true, true, true, true, true, true, true, true, true, true, true, true, true, true, true, true, true, true, true, true, true, true, true, true, true, true, true, false, false, false, false, false, false, false, false, false, false, false, false, false, false, false, false] rfl rfl (by kernel_rfl) (fun _ _ _ h => h) (Or.inl ⟨by rfl, ?_⟩) ?_ ?_
  rotate_left
  · intro w'
    go_simp
    with_reducible rfl
  rotate_left
  · simp only [Act.put, List.setIfInBounds_toArray, List.set_cons_zero, List.set_cons_succ, i64_w, i32_w]
    rfl
  refine take_ (i := 27) (N := some 79) (v := ?_) (a' := ?_) #[true, true, true, true, true, true, true, true, true, true, true, true, true, true, true, true, true, true, true, true, true, true, true, true, true, true, true, true, false, false, false, false, false, false, false, false, false, false, false, false, false, false, false] rfl rfl (by kernel_rfl) (fun _ _ _ h => h) (Or.inl ⟨by rfl, ?_⟩) hHeld ?_ ?_
  rotate_left
  · rintro w' ⟨s0, s1, s2, s3, s4, s5, s6, s7, s8, s9, s10, s11, s12, s13, s14, s15, s16⟩
    go_simp
    with_reducible rfl
  rotate_left
  · simp only [Act.put, List.setIfInBounds_toArray, List.set_cons_zero, List.set_cons_succ, i64_w, i32_w]
    rfl
  refine pure_ (i := 28) (N := some 80) (v := ?_) (a' := ?_) #[true, true, true, true, true, true, true, true, true, true, true, true, true, true, true, true, true, true, true, true, true, true, true, true, true, true, true, true, true, false, false, false, false, false, false, false, false, false, false, false, false, false, false] rfl rfl (by kernel_rfl) (fun _ _ _ h => h) (Or.inl ⟨by rfl, ?_⟩) ?_ ?_
  rotate_left
  · intro w'
    go_simp
    with_reducible rfl
  rotate_left
  · simp only [Act.put, List.setIfInBounds_toArray, List.set_cons_zero, List.set_cons_succ, i64_w, i32_w]
    rfl
  refine pure_ (i := 29) (N := some 81) (v := ?_) (a' := ?_) #[true, true, true, true, true, true, true, true, true, true, true, true, true, true, true, true, true, true, true, true, true, true, true, true, true, true, true, true, true, true, false, false, false, false, false, false, false, false, false, false, false, false, false] rfl rfl (by kernel_rfl) (fun _ _ _ h => h) (Or.inl ⟨by rfl, ?_⟩) ?_ ?_
  rotate_left
  · intro w'
    go_simp
    with_reducible rfl
  rotate_left
  · simp only [Act.put, List.setIfInBounds_toArray, List.set_cons_zero, List.set_cons_succ, i64_w, i32_w]
    rfl
  refine take_ (i := 30) (N := some 82) (v := ?_) (a' := ?_) #[true, true, true, true, true, true, true, true, true, true, true, true, true, true, true, true, true, true, true, true, true, true, true, true, true, true, true, true, true, true, true, false, false, false, false, false, false, false, false, false, false, false, false] rfl rfl (by kernel_rfl) (fun _ _ _ h => h) (Or.inl ⟨by rfl, ?_⟩) hHeld ?_ ?_
  rotate_left
  · rintro w' ⟨s0, s1, s2, s3, s4, s5, s6, s7, s8, s9, s10, s11, s12, s13, s14, s15, s16⟩
    go_simp
    with_reducible rfl
  rotate_left
  · simp only [Act.put, List.setIfInBounds_toArray, List.set_cons_zero, List.set_cons_succ, i64_w, i32_w]
    rfl
  refine pure_ (i := 31) (N := some 83) (v := ?_) (a' := ?_) #[true, true, true, true, true, true, true, true, true, true, true, true, true, true, true, true, true, true, true, true, true, true, true, true, true, true, true, true, true, true, true, true, false, false, false, false, false, false, false, false, false, false, false] rfl rfl (by kernel_rfl) (fun _ _ _ h => h) (Or.inl ⟨by rfl, ?_⟩) ?_ ?_
  rotate_left
  · intro w'
    go_simp
    with_reducible rfl
  rotate_left
  · simp only [Act.put, List.setIfInBounds_toArray, List.set_cons_zero, List.set_cons_succ, i64_w, i32_w]
    rfl
  refine pure_ (i := 32) (N := some 84) (v := ?_) (a' := ?_) #[true, true, true, true, true, true, true, true, true, true, true, true, true, true, true, true, true, true, true, true, true, true, true, true, true, true, true, true, true, true, true, true, true, false, false, false, false, false, false, false, false, false, false] rfl rfl (by kernel_rfl) (fun _ _ _ h => h) (Or.inl ⟨by rfl, ?_⟩) ?_ ?_
  rotate_left
  · intro w'
    go_simp
    with_reducible rfl
  rotate_left
  · simp only [Act.put, List.setIfInBounds_toArray, List.set_cons_zero, List.set_cons_succ, i64_w, i32_w]
    rfl
  refine pure_ (i := 33) (N := some 85) (v := ?_) (a' := ?_) #[true, true, true, true, true, true, true, true, true, true, true, true, true, true, true, true, true, true, true, true, true, true, true, true, true, true, true, true, true, true, true, true, true, true, false, false, false, false, false, false, false, false, false] rfl rfl (by kernel_rfl) (fun _ _ _ h => h) (Or.inl ⟨by rfl, ?_⟩) ?_ ?_
  rotate_left
  · intro w'
    go_simp
    with_reducible rfl
  rotate_left
  · simp only [Act.put, List.setIfInBounds_toArray, List.set_cons_zero, List.set_cons_succ, i64_w, i32_w]
    rfl
  refine take_ (i := 34) (N := some 86) (v := ?_) (a' := ?_) #[true, true, true, true, true, true, true, true, true, true, true, true, true, true, true, true, true, true, true, true, true, true, true, true, true, true, true, true, true, true, true, true, true, true, true, false, false, false, false, false, false, false, false] rfl rfl (by kernel_rfl) (fun _ _ _ h => h) (Or.inl ⟨by rfl, ?_⟩) hHeld ?_ ?_
  rotate_left
  · rintro w' ⟨s0, s1, s2, s3, s4, s5, s6, s7, s8, s9, s10, s11, s12, s13, s14, s15, s16⟩
    go_simp
    with_reducible rfl
  rotate_left
  · simp only [Act.put, List.setIfInBounds_toArray, List.set_cons_zero, List.set_cons_succ, i64_w, i32_w]
    rfl
  have HCx := Aside0.mk (Kd.R_reads' (Kd.R_drew HC9.out)).2.2
  refine one_ (i := 35) (N := some 87) #[true, true, true, true, true, true, true, true, true, true, true, true, true, true, true, true, true, true, true, true, true, true, true, true, true, true, true, true, true, true, true, true, true, true, true, true, false, false, false, false, false, false, false] rfl rfl (by kernel_rfl) (by decide) (fun K hK => ?_)
  refine goes_ Try.func22 (by kernel_rfl) rfl #[.agg #[.slice A6 2 c6]] (by rfl) rfl rfl (by (try simp only [List.map_toArray, List.map_cons, List.map_nil]); first | done | rfl | (simp only [List.length_drop, List.length_take]; rfl)) ?_
  refine (h7 _ _ _ HCx.out).mono ?_
  rintro e w10 ⟨rfl, hb⟩
  have HB10 := Aside0.mk (below_step (below_drew1 HB9.out) hb)
  have HC10 := Aside0.mk (Kd.R_below (Kd.R_drew HC9.out) hb)
  have hbk10 := fun {p v} (h : W9.drew.cell? p = some v) => pw_cell_below hb h
  clear hb
  refine ⟨_, rfl, ?_⟩
  refine hK.out _ _ ⟨hbk10 zf, hbk10 zn0, hbk10 zn1, hbk10 zn2, hbk10 zn3, hbk10 zn4, hbk10 zn5, hbk10 zn6, hbk10 zn7, hbk10 t0, hbk10 t1, hbk10 t2, hbk10 t3, hbk10 t4, hbk10 t5, hbk10 t6, hbk10 t7⟩ (fun hHeld => ?_)
  clear hK K
  refine norm_ (a' := ?_) ?_ ?_
  rotate_left
  · show Act.put _ (some 87) _ = _
    simp only [Act.put, List.setIfInBounds_toArray, List.set_cons_zero, List.set_cons_succ, i64_w, i32_w]
    rfl
  clear HCx
  refine pure_ (i := 36) (N := some 88) (v := ?_) (a' := ?_) #[true, true, true, true, true, true, true, true, true, true, true, true, true, true, true, true, true, true, true, true, true, true, true, true, true, true, true, true, true, true, true, true, true, true, true, true, true, false, false, false, false, false, false] rfl rfl (by kernel_rfl) (fun _ _ _ h => h) (Or.inl ⟨by rfl, ?_⟩) ?_ ?_
  rotate_left
  · intro w'
    go_simp
    with_reducible rfl
  rotate_left
  · simp only [Act.put, List.setIfInBounds_toArray, List.set_cons_zero, List.set_cons_succ, i64_w, i32_w]
    rfl
  refine pure_ (i := 37) (N := some 89) (v := ?_) (a' := ?_) #[true, true, true, true, true, true, true, true, true, true, true, true, true, true, true, true, true, true, true, true, true, true, true, true, true, true, true, true, true, true, true, true, true, true, true, true, true, true, false, false, false, false, false] rfl rfl (by kernel_rfl) (fun _ _ _ h => h) (Or.inl ⟨by rfl, ?_⟩) ?_ ?_
  rotate_left
  · intro w'
    go_simp
    with_reducible rfl
  rotate_left
  · simp only [Act.put, List.setIfInBounds_toArray, List.set_cons_zero, List.set_cons_succ, i64_w, i32_w]
    rfl
  refine take_ (i := 38) (N := some 90) (v := ?_) (a' := ?_) #[true, true, true, true, true, true, true, true, true, true, true, true, true, true, true, true, true, true, true, true, true, true, true, true, true, true, true, true, true, true, true, true, true, true, true, true, true, true, true, false, false, false, false] rfl rfl (by kernel_rfl) (fun _ _ _ h => h) (Or.inl ⟨by rfl, ?_⟩) hHeld ?_ ?_
  rotate_left
  · rintro w' ⟨s0, s1, s2, s3, s4, s5, s6, s7, s8, s9, s10, s11, s12, s13, s14, s15, s16⟩
    go_simp
    with_reducible rfl
  rotate_left
  · simp only [Act.put, List.setIfInBounds_toArray, List.set_cons_zero, List.set_cons_succ, i64_w, i32_w]
    rfl
  refine take_ (i := 39) (N := some 91) (v := ?_) (a' := ?_) #[true, true, true, true, true, true, true, true, true, true, true, true, true, true, true, true, true, true, true, true, true, true, true, true, true, true, true, true, true, true, true, true, true, true, true, true, true, true, true, true, false, false, false] rfl rfl (by kernel_rfl) (fun _ _ _ h => h) (Or.inl ⟨by rfl, ?_⟩) hHeld ?_ ?_
  rotate_left
  · rintro w' ⟨s0, s1, s2, s3, s4, s5, s6, s7, s8, s9, s10, s11, s12, s13, s14, s15, s16⟩
    go_simp
    with_reducible rfl
  rotate_left
  · simp only [Act.put, List.setIfInBounds_toArray, List.set_cons_zero, List.set_cons_succ, i64_w, i32_w]
    rfl
  have HCx := Aside0.mk (Kd.R_reads' HC10.out).2.2
  refine one_ (i := 40) (N := some 92) #[true, true, true, true, true, true, true, true, true, true, true, true, true, true, true, true, true, true, true, true, true, true, true, true, true, true, true, true, true, true, true, true, true, true, true, true, true, true, true, true, true, false, false] rfl rfl (by kernel_rfl) (by decide) (fun K hK => ?_)
  refine goes_ Try.func23 (by kernel_rfl) rfl #[.agg #[.slice A6 2 c6], .agg #[.slice A6 2 c6]] (by rfl) rfl rfl (by (try simp only [List.map_toArray, List.map_cons, List.map_nil]); first | done | rfl | (simp only [List.length_drop, List.length_take]; rfl)) ?_
  refine (h8 _ _ _ HCx.out HLc.out).mono ?_
  rintro e w11 ⟨rfl, hb⟩
  have HB11 := Aside0.mk (below_step HB10.out hb)
  have HC11 := Aside0.mk (Kd.R_below HC10.out hb)
  have hbk11 := fun {p v} (h : w10.cell? p = some v) => pw_cell_below hb h
  clear hb
  refine ⟨_, rfl, ?_⟩
  refine hK.out _ _ ⟨hbk11 (hbk10 zf), hbk11 (hbk10 zn0), hbk11 (hbk10 zn1), hbk11 (hbk10 zn2), hbk11 (hbk10 zn3), hbk11 (hbk10 zn4), hbk11 (hbk10 zn5), hbk11 (hbk10 zn6), hbk11 (hbk10 zn7), hbk11 (hbk10 t0), hbk11 (hbk10 t1), hbk11 (hbk10 t2), hbk11 (hbk10 t3), hbk11 (hbk10 t4), hbk11 (hbk10 t5), hbk11 (hbk10 t6), hbk11 (hbk10 t7)⟩ (fun hHeld => ?_)
  clear hK K
  refine norm_ (a' := ?_) ?_ ?_
  rotate_left
  · show Act.put _ (some 92) _ = _
    simp only [Act.put, List.setIfInBounds_toArray, List.set_cons_zero, List.set_cons_succ, i64_w, i32_w]
    rfl
  clear HCx
  refine pure_ (i := 41) (N := some 93) (v := ?_) (a' := ?_) #[true, true, true, true, true, true, true, true, true, true, true, true, true, true, true, true, true, true, true, true, true, true, true, true, true, true, true, true, true, true, true, true, true, true, true, true, true, true, true, true, true, true, false] rfl rfl (by kernel_rfl) (fun _ _ _ h => h) (Or.inl ⟨by rfl, ?_⟩) ?_ ?_
  rotate_left
  · intro w'
    go_simp
    with_reducible rfl
  rotate_left
  · simp only [Act.put, List.setIfInBounds_toArray, List.set_cons_zero, List.set_cons_succ, i64_w, i32_w]
    rfl
  refine pure_ (i := 42) (N := some 0) (v := ?_) (a' := ?_) #[true, true, true, true, true, true, true, true, true, true, true, true, true, true, true, true, true, true, true, true, true, true, true, true, true, true, true, true, true, true, true, true, true, true, true, true, true, true, true, true, true, true, true] rfl rfl (by kernel_rfl) (fun _ _ _ h => h) (Or.inl ⟨by rfl, ?_⟩) ?_ ?_
  rotate_left
  · intro w'
    go_simp
    with_reducible rfl
  rotate_left
  · simp only [Act.put, List.setIfInBounds_toArray, List.set_cons_zero, List.set_cons_succ, i64_w, i32_w]
    rfl
  refine done_ (by kernel_rfl) ?_
  go_wp2_with (fail)
  go_ret
  exact ⟨rfl, (by repeat (first | exact HB11.out | apply pw_below_drewN | apply below_drew1))⟩
theorem ok19 : okN t19 = true ∧ okN u19 = true ∧ okN v19 = true := by decide +kernel
theorem ok19l (a b : Nd) (ha : okN a = true) (hb : okN b = true) : ∀ x ∈ [a, b], okN x = true := by
  intro x hx
  rcases List.mem_cons.1 hx with rfl | hx
  · exact ha
  · rw [List.mem_singleton.1 hx]; exact hb
theorem awake19.at_ (w : World) : Calls Try.prog 9 #[] w fun e w' => e = .returned (.bool true) ∧ Below w.heap.size w w' := by
  obtain ⟨ot, ou, ov⟩ := ok19
  refine awake19_walk t19 u19 v19 w ?_ ?_ ?_ ?_ ?_ ?_ ?_ ?_ ?_
  · intro W
    refine (reelkeeperlaw06_Two.calls [t19, u19] W rfl).mono ?_
    rintro e w' ⟨v, rfl, hR, hB⟩
    obtain ⟨A, c, rfl, _, hC⟩ := Kd.R_reads hR
    exact ⟨A, c, rfl, ⟨hC⟩, hB⟩
  · intro W
    have h := fs_Put.at_ none 0 [] u19 W (Kd.C_nil kNd W) (by decide) (fun x hx => by cases hx) ou
    simp only [a19_1] at h
    exact h
  · intro W
    have h := fs_Put.at_ none 0 [] t19 W (Kd.C_nil kNd W) (by decide) (fun x hx => by cases hx) ot
    simp only [a19_2v] at h
    exact h
  · intro W A c hC
    have h := fs_Put.at_ A c [t19] u19 W hC (by decide) (fun x hx => by rw [List.mem_singleton.1 hx]; exact ot) ou
    simp only [a19_3v] at h
    exact h
  · intro W A c hC
    have h := fs_Grow.at_ A c [t19, u19] ⟨#[97, 47, 98]⟩ ⟨#[33]⟩ W hC (by decide) (ok19l _ _ ot ou)
    simp only [a19_4] at h
    exact h
  · intro W A c hC
    have h := fs_Text.at_ A c [t19, v19] ⟨#[97, 47, 98]⟩ W hC (by decide) (ok19l _ _ ot ov)
    simp only [a19_5] at h
    exact h
  · intro W A c hC
    have h := fs_Get.at_ A c [t19, v19] ⟨#[97]⟩ W hC (by decide) (ok19l _ _ ot ov)
    simp only [a19_6] at h
    exact h
  · intro W A c hC
    have h := fs_May.at_ A c [t19, v19] W hC (by decide) (ok19l _ _ ot ov)
    simp only [a19_may3] at h
    exact h
  · intro W A c hC hc
    exact fs_Same.self [t19, v19] (by decide) W A A c c hC hc hC hc

end Go.Proofs.Ytklbnfpjjcidiaa.X
