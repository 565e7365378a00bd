/- Paths, plainly: a text's parts between slashes, which texts may be paths, and what is split, joined, above and below. -/
import Derived.Lib.Strings
import Derived.Lib.Bytealg
import Derived.Lib.IndexLaws
import Derived.Lib.IndexBytes
namespace Go.Proofs.YtlecnodlnkanaaaY

/-- The pieces between slashes. -/
def splitL : List UInt8 → List (List UInt8)
  | [] => [[]]
  | c :: l => if c = 47 then [] :: splitL l else match splitL l with
    | [] => [[c]]
    | h :: t => (c :: h) :: t

def oddL (l : List UInt8) : Bool := l == [] || l == [46] || l == [46, 46]
/-- A path that may be. -/
def mayL (l : List UInt8) : Bool := (splitL l).all (fun x => !oddL x) && (decide (l.length ≤ 300) && !l.contains 0)

theorem splitL_ne (l : List UInt8) : splitL l ≠ [] := by
  cases l with
  | nil => simp [splitL]
  | cons c l => unfold splitL; split <;> (try split) <;> simp

theorem splitL_slash (l : List UInt8) : splitL (47 :: l) = [] :: splitL l := by simp [splitL]

theorem splitL_cons {c : UInt8} (hc : c ≠ 47) (l : List UInt8) : ∃ h t, splitL l = h :: t ∧ splitL (c :: l) = (c :: h) :: t := by
  cases hl : splitL l with
  | nil => exact absurd hl (splitL_ne l)
  | cons h t => exact ⟨h, t, rfl, by simp [splitL, hc, hl]⟩

/-- Two texts with a slash between have the pieces of both. -/
theorem splitL_append (a b : List UInt8) : splitL (a ++ 47 :: b) = splitL a ++ splitL b := by
  induction a with
  | nil => simp [splitL]
  | cons c a ih =>
    by_cases hc : c = 47
    · subst hc; rw [List.cons_append, splitL_slash, splitL_slash, ih]; rfl
    · obtain ⟨h, t, h1, h2⟩ := splitL_cons hc a
      obtain ⟨h', t', h3, h4⟩ := splitL_cons hc (a ++ 47 :: b)
      rw [List.cons_append, h4, h2]
      rw [ih, h1] at h3
      injection h3 with e1 e2
      rw [← e1, ← e2]; rfl

/-- A text without a slash is its one piece. -/
theorem splitL_one {l : List UInt8} (h : (47 : UInt8) ∉ l) : splitL l = [l] := by
  induction l with
  | nil => rfl
  | cons c l ih =>
    have hc : c ≠ 47 := fun e => h (by simp [e])
    obtain ⟨h', t, h1, h2⟩ := splitL_cons hc l
    rw [ih (fun e => h (by simp [e]))] at h1
    injection h1 with e1 e2
    rw [h2, ← e1, ← e2]

theorem splitL_noslash (l : List UInt8) : ∀ x ∈ splitL l, (47 : UInt8) ∉ x := by
  induction l with
  | nil => simp [splitL]
  | cons c l ih =>
    by_cases hc : c = 47
    · subst hc; rw [splitL_slash]
      intro x hx
      rcases List.mem_cons.1 hx with rfl | hx
      · simp
      · exact ih x hx
    · obtain ⟨h, t, h1, h2⟩ := splitL_cons hc l
      rw [h2]
      rw [h1] at ih
      intro x hx
      rcases List.mem_cons.1 hx with rfl | hx
      · have := ih h (by simp)
        simp [this, Ne.symm hc]
      · exact ih x (by simp [hx])

/-- A text's pieces, as byte strings. -/
def splitA (s : ByteArray) : List ByteArray := (splitL s.data.toList).map fun l => ⟨l.toArray⟩

theorem indexByte_split {l : List UInt8} {n : Nat} (h : Lib.indexByte l 47 = (n : Int)) : l = l.take n ++ 47 :: l.drop (n + 1) ∧ (47 : UInt8) ∉ l.take n := by
  obtain ⟨h1, h2⟩ := Lib.indexByte_some h
  obtain ⟨hlt, he⟩ := List.getElem?_eq_some_iff.1 h1
  refine ⟨?_, fun hm => ?_⟩
  · conv => lhs; rw [← List.take_append_drop n l, List.drop_eq_getElem_cons hlt, he]
  · obtain ⟨k, hk, e⟩ := List.getElem_of_mem hm
    have hk2 : k < n := by simp at hk; omega
    refine h2 k hk2 ?_
    rw [List.getElem?_eq_getElem (by omega)]
    rw [List.getElem_take] at e
    rw [e]

theorem indexByte_none' {l : List UInt8} {c : UInt8} (h : ¬ 0 ≤ Lib.indexByte l c) : c ∉ l := by
  intro hm
  obtain ⟨k, hk, e⟩ := List.getElem_of_mem hm
  have h0 : Lib.indexByte l c = -1 := by have := Lib.indexByte_ge l c; omega
  exact Lib.indexByte_none h0 k (by rw [List.getElem?_eq_getElem hk, e])

theorem indexByte_lt {l : List UInt8} {c : UInt8} {n : Nat} (h : Lib.indexByte l c = (n : Int)) : n < l.length := by
  obtain ⟨hlt, _⟩ := List.getElem?_eq_some_iff.1 (Lib.indexByte_some h).1
  exact hlt

theorem ext_data {a b : ByteArray} (h : a.data.toList = b.data.toList) : a = b := by
  cases a; cases b
  simp only [ByteArray.mk.injEq]
  exact Array.toList_inj.1 h

theorem splitA_found {s : ByteArray} {n : Nat} (h : Lib.indexByte s.data.toList 47 = (n : Int)) : splitA s = s.extract 0 n :: splitA (s.extract (n + 1) s.size) := by
  obtain ⟨h1, h2⟩ := indexByte_split h
  unfold splitA
  have e1 : (s.extract (n + 1) s.size).data.toList = s.data.toList.drop (n + 1) := Lib.extract_to_end s (n + 1)
  rw [e1]
  conv => lhs; rw [h1, splitL_append, splitL_one h2]
  simp only [List.cons_append, List.nil_append, List.map_cons, List.cons.injEq, and_true]
  exact ext_data (by simp)

theorem splitA_none {s : ByteArray} (h : ¬ 0 ≤ Lib.indexByte s.data.toList 47) : splitA s = [s] := by
  unfold splitA
  rw [splitL_one (indexByte_none' h)]
  rfl

theorem splitL_length (l : List UInt8) : (splitL l).length ≤ l.length + 1 := by
  induction l with
  | nil => simp [splitL]
  | cons c l ih =>
    by_cases hc : c = 47
    · subst hc; rw [splitL_slash]; simp; omega
    · obtain ⟨h, t, h1, h2⟩ := splitL_cons hc l
      rw [h1] at ih
      rw [h2]
      simp only [List.length_cons] at ih ⊢
      omega

theorem splitA_length (s : ByteArray) : (splitA s).length ≤ s.size + 1 := by
  unfold splitA
  rw [List.length_map]
  have := splitL_length s.data.toList
  rw [Array.length_toList] at this
  exact this

end Go.Proofs.YtlecnodlnkanaaaY
