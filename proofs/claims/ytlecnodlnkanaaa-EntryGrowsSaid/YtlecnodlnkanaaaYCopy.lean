/- copy into a row that is known whole: the row behind it, all other blocks as they were. -/
import Derived.Test.YtlecnodlnkanaaaYIter
import Derived.Laws.CopyOwn
import Derived.Test.YtlecnodlnkanaaaWMore
namespace Go.Proofs.YtlecnodlnkanaaaY
open Go.RowKit Go.Proofs.YtlecnodlnkanaaaW.PrintWords

theorem Turn.keep {g : Nat} {A B : World} (h : Turn (fun k => k = g) A B) : KeepBut A B g none := ⟨h.size, fun i hi hn _ => h.block i hi hn⟩
theorem Turn.setRow {S : Nat → Prop} (A : World) {g : Nat} (cs : Array Value) (hg : S g) : Turn S A (A.setRow g cs) :=
  ⟨rfl, rfl, rfl, by simp [World.setRow], fun k _ hn => setRow_other A g k cs (fun e => hn (e ▸ hg))⟩

section
variable {P : Program} {ops : Array Oper} {rest : List Oper} {o : Oper} {a : Act} {Q : Exit → Act → World → Prop} {w : World}
theorem wpList_copy_turn (hgd : o.guard = none) (d s : Operand) (dT sT : TypeId)
    (ho : o.op = .call { callee := .builtin .copy, args := #[d, s], argTypes := #[dT, sT] }) (elem : TypeId) (hu : P.underlying dT = some (.slice elem)) (hsz : (P.info? elem).map (·.size) = some 1)
    (dp sp : Option Addr) (dLen dCap sLen sCap : Nat) (hd : a.eval d = .slice dp dLen dCap) (hs : a.eval s = .slice sp sLen sCap)
    (g off : Nat) (cur : List Value) (t : TypeId) (hg : w.heap[g]? = some (.cells cur.toArray t (0, 0))) (cs : List Value) (hn : cs.length = Nat.min sLen dLen)
    (hpos : 0 < cs.length → dp = some ⟨g, off, none⟩ ∧ ∃ ad, sp = some ad ∧ ∀ j v, cs[j]? = some v → w.cell? (ad.add j) = some v)
    (hfit : off + cs.length ≤ cur.length) (h1 : ∀ v ∈ cs, v.oneCell' = true)
    (h : ∀ w', w'.heap[g]? = some (.cells (splice cur off cs).toArray t (0, 0)) → Turn (fun k => k = g) w w' → wpList P ops Q rest (a.put o.dst (goInt cs.length)) w') :
    wpList P ops Q (o :: rest) a w := by
  by_cases h0 : cs.length = 0
  · obtain rfl : cs = [] := List.eq_nil_of_length_eq_zero h0
    refine wpList_copy_nothing hgd d s dT sT ho elem hu hsz dp sp dLen dCap sLen sCap hd hs (by simpa using hn.symm) ?_
    exact h w (by simpa [splice] using hg) (Turn.refl _ _)
  · obtain ⟨rfl, ad, rfl, hsrc⟩ := hpos (by omega)
    refine wpList_copy_own hgd d s dT sT ho elem hu hsz g off dLen dCap ad sLen sCap hd hs cur.toArray t hg cs hn hsrc (by simpa using hfit) h1 ?_
    exact h _ (by simpa [splice] using setRow_heap w g _ _ t _ hg) (Turn.setRow _ _ rfl)
end

/-- Bytes laid over others, from a place on. -/
theorem splice_nums (l : List Int) (at_ : Nat) (x : List Int) : splice (nums .u8 l) at_ (nums .u8 x) = nums .u8 (splice l at_ x) := by
  unfold splice nums
  simp only [List.map_append, List.map_take, List.map_drop, List.length_map]
/-- Several, one behind the other. -/
def layAll (l : List Int) (at_ : Nat) : List (List Int) → List Int
  | [] => l
  | x :: r => layAll (splice l at_ x) (at_ + x.length) r
def posAll (at_ : Nat) (r : List (List Int)) : Nat := at_ + (r.map List.length).sum
theorem layAll_snoc : ∀ (r : List (List Int)) (l : List Int) (at_ : Nat) (x : List Int), layAll l at_ (r ++ [x]) = splice (layAll l at_ r) (posAll at_ r) x
  | [], l, at_, x => by simp [layAll, posAll]
  | y :: r, l, at_, x => by
    rw [List.cons_append, layAll, layAll_snoc r, layAll]
    unfold posAll
    simp only [List.map_cons, List.sum_cons, Nat.add_assoc]
theorem posAll_snoc (at_ : Nat) (r : List (List Int)) (x : List Int) : posAll at_ (r ++ [x]) = posAll at_ r + x.length := by
  unfold posAll
  simp only [List.map_append, List.sum_append, List.map_cons, List.map_nil, List.sum_cons, List.sum_nil]
  omega
theorem layAll_length : ∀ (r : List (List Int)) (l : List Int) (at_ : Nat), posAll at_ r ≤ l.length → (layAll l at_ r).length = l.length
  | [], _, _, _ => rfl
  | x :: r, l, at_, h => by
    unfold posAll at h
    simp only [List.map_cons, List.sum_cons] at h
    have h1 := length_splice l at_ x (by omega)
    rw [layAll, layAll_length r _ _ (by unfold posAll; omega), h1]
theorem posAll_take (at_ : Nat) (r : List (List Int)) (k : Nat) : posAll at_ (r.take k) ≤ posAll at_ r := by
  have h : posAll at_ r = posAll at_ (r.take k) + ((r.drop k).map List.length).sum := by
    have := congrArg (fun z => (List.map List.length z).sum) (List.take_append_drop k r)
    simp only [List.map_append, List.sum_append] at this
    unfold posAll
    omega
  omega
end Go.Proofs.YtlecnodlnkanaaaY
