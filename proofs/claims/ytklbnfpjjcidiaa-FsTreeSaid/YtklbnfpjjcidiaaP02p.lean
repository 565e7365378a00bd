/- Parents, plainly. -/
import Derived.Test.YtklbnfpjjcidiaaXK
import Derived.Test.YtklbnfpjjcidiaaXGpath
import Derived.Test.YtklbnfpjjcidiaaYAll
import Derived.Test.YtklbnfpjjcidiaaPGA
import Derived.Lib.IndexAny
namespace Go.Proofs.Ytklbnfpjjcidiaa.X
open Go.RowKit Go.Proofs.YtklbnfpjjcidiaaW.PrintWords Go.Proofs.YtklbnfpjjcidiaaW.PrintLast Go.Proofs.YtklbnfpjjcidiaaW.PrintMore
attribute [local go_sem] max2_int min2_int max_two min_two
set_option linter.unusedVariables false
set_option linter.unusedSimpArgs false

open Go.Proofs.YtklbnfpjjcidiaaY
theorem last_ev (s : ByteArray) (hs : s.size ≤ 9223372036854775807) (n : Nat) : n ≤ s.size → (47 : UInt8) ∉ s.data.toList.drop n →
    ∃ r, Ev (fun k => bytealg_LastIndexByteString.l0 k s 47 ((n : Int) - 1)) r ∧ ((r = -1 ∧ (47 : UInt8) ∉ s.data.toList) ∨
      ∃ m : Nat, r = m ∧ m < s.size ∧ s.data.toList[m]? = some 47 ∧ (47 : UInt8) ∉ s.data.toList.drop (m + 1)) := by
  induction n with
  | zero =>
    intro _ h
    refine ⟨-1, Ev.step (fun _ => rfl) ?_, .inl ⟨rfl, by simpa using h⟩⟩
    simp only [bytealg_LastIndexByteString.l0]
    exact Ev.congr (fun k => by rw [if_neg (by omega)]) (Ev.now _)
  | succ n ih =>
    intro hn h
    by_cases hc : bt s (n : Int) = 47
    · have hq : s.data.toList[n]? = some 47 := (bt_is (by omega) 47).1 hc
      refine ⟨n, Ev.step (fun _ => rfl) ?_, .inr ⟨n, rfl, by omega, hq, h⟩⟩
      simp only [bytealg_LastIndexByteString.l0]
      refine Ev.congr (fun k => ?_) (Ev.now _)
      rw [show (((n + 1 : Nat) : Int) - 1) = (n : Int) by omega, if_pos (by omega), if_pos (by omega), if_pos (by omega), if_pos hc]
    · obtain ⟨r, hr, h2⟩ := ih (by omega) (by
        obtain ⟨c, h1, h2⟩ := bt_some (s := s) (n := n) (by omega)
        have hlt := (List.getElem?_eq_some_iff.1 h1).1
        rw [List.drop_eq_getElem_cons hlt]
        intro hm
        rcases List.mem_cons.1 hm with e | hm
        · rw [List.getElem?_eq_getElem hlt, ← e] at h1
          exact hc ((bt_is (by omega) 47).2 (by rw [List.getElem?_eq_getElem hlt, ← e]))
        · exact h hm)
      refine ⟨r, Ev.step (fun _ => rfl) ?_, h2⟩
      simp only [bytealg_LastIndexByteString.l0]
      refine Ev.congr (fun k => ?_) hr
      rw [show (((n + 1 : Nat) : Int) - 1) = (n : Int) by omega, if_pos (by omega), if_pos (by omega), if_pos (by omega), if_neg hc, wrap_id (by omega) (by omega)]

/-- What a parent is. -/
def IsParent (s : ByteArray) (r : ByteArray × Bool) : Prop :=
  (r = (⟨#[]⟩, false) ∧ (mayL s.data.toList = true → (47 : UInt8) ∉ s.data.toList)) ∨
  (r.2 = true ∧ mayL s.data.toList = true ∧ ∃ y, s.data.toList = r.1.data.toList ++ 47 :: y ∧ (47 : UInt8) ∉ y)

theorem tail_unique {a b x y : List UInt8} (h : a ++ 47 :: x = b ++ 47 :: y) (hx : (47 : UInt8) ∉ x) (hy : (47 : UInt8) ∉ y) : a = b := by
  have h1 := congrArg List.reverse h
  simp only [List.reverse_append, List.reverse_cons, List.append_assoc, List.cons_append, List.nil_append] at h1
  have key : ∀ (p q a b : List UInt8), (47 : UInt8) ∉ p → (47 : UInt8) ∉ q → p ++ 47 :: a = q ++ 47 :: b → a = b := by
    intro p
    induction p with
    | nil =>
      intro q a b _ hq e
      cases q with
      | nil => simpa using e
      | cons c q => simp only [List.nil_append, List.cons_append, List.cons.injEq] at e; exact absurd (by rw [← e.1]; simp) hq
    | cons c p ih =>
      intro q a b hp hq e
      cases q with
      | nil => simp only [List.nil_append, List.cons_append, List.cons.injEq] at e; exact absurd (by rw [e.1]; simp) hp
      | cons d q =>
        simp only [List.cons_append, List.cons.injEq] at e
        exact ih q a b (fun h => hp (by simp [h])) (fun h => hq (by simp [h])) e.2
  have := key _ _ _ _ (by simpa using hx) (by simpa using hy) h1
  simpa using congrArg List.reverse this

theorem IsParent.unique {s : ByteArray} {r q : ByteArray × Bool} (h : IsParent s r) (k : IsParent s q) : r = q := by
  rcases h with ⟨rfl, h⟩ | ⟨h1, h2, y, h3, h4⟩
  · rcases k with ⟨rfl, _⟩ | ⟨k1, k2, z, k3, _⟩
    · rfl
    · exact absurd (by rw [k3]; simp) (h k2)
  · rcases k with ⟨rfl, k⟩ | ⟨k1, k2, z, k3, k4⟩
    · exact absurd (by rw [h3]; simp) (k h2)
    · rw [h3] at k3
      exact Prod.ext (ext_data (tail_unique k3 h4 k4)) (h1.trans k1.symm)

theorem parent_ev (s : ByteArray) (hs : s.size ≤ 9223372036854775807) : ∃ r, Ev (fun k => path_Parent.f k s) r ∧ IsParent s r := by
  obtain ⟨i, h1, h2⟩ := last_ev s hs s.size (Nat.le_refl _) (by rw [List.drop_of_length_le (by rw [Array.length_toList]; exact Nat.le_refl _)]; simp)
  have h3 : Ev (fun k => strings_LastIndexByte.f k s 47) i := by
    unfold strings_LastIndexByte.f bytealg_LastIndexByteString.f
    rw [wrap_id (by omega) (by omega)]
    exact Ev.bind h1 (Ev.now _)
  unfold path_Parent.f
  cases hm : mayL s.data.toList
  · refine ⟨(⟨#[]⟩, false), Ev.bind h3 ?_, .inl ⟨rfl, fun h => by rw [hm] at h; cases h⟩⟩
    rw [may_f hs, hm]
    simp only [Option.bind_some]
    refine Ev.congr (fun k => ?_) (Ev.now _)
    simp
  · rcases h2 with ⟨rfl, hn⟩ | ⟨m, rfl, hlt, hq, hn⟩
    · exact ⟨(⟨#[]⟩, false), Ev.bind h3 (Ev.congr (fun k => by rw [if_pos (by omega)]) (Ev.now _)), .inl ⟨rfl, fun _ => hn⟩⟩
    · refine ⟨(s.extract 0 m, true), Ev.bind h3 ?_, .inr ⟨rfl, hm, s.data.toList.drop (m + 1), ?_, hn⟩⟩
      · rw [may_f hs, hm]
        simp only [Option.bind_some]
        exact Ev.congr (fun k => by rw [if_neg (by omega), if_pos trivial, if_pos (by omega), if_pos (by omega)]; simp) (Ev.now _)
      · have e : (s.extract 0 m).data.toList = s.data.toList.take m := by rw [Lib.extract_data]; simp
        rw [e]
        exact list_at hq


end Go.Proofs.Ytklbnfpjjcidiaa.X
