/- Rows of the call's own: a literal without elements; a row without its last elements. -/
import Derived.Test.YtddjnicmpgbcgaaWMore
namespace Go.Proofs.YtddjnicmpgbcgaaY
open Go.RowKit Go.Proofs.YtddjnicmpgbcgaaW.PrintWords Go.Proofs.YtddjnicmpgbcgaaW.PrintLast Go.Proofs.YtddjnicmpgbcgaaW.PrintMore

theorem R_empty {α : Type} (d : Kd α) (e : Nat) (W : World) (base : Nat) (hb : base ≤ W.heap.size) :
    d.R e (W.alloc (.cells #[] e)) base (fun _ => True) (.slice (some ⟨W.heap.size, 0, none⟩) 0 0) [] :=
  ⟨fun _ _ => trivial, [], ⟨by simp, .inr ⟨W.heap.size, 0, #[], rfl, hb, heap_alloc_new W _, Nat.le_refl _, by unfold maxLen; omega, by simp, by simp⟩⟩, Reps.none _ _⟩

/-- clear(s[o:]): the cells are zeros; the world by its stores. -/
theorem run_clear {P : Program} {m : Nat} (w : World) (t e ty : TypeId) (z : Value) (hu : P.underlying t = some (.slice e)) (hz : ∀ w, (zeroValue e).run P w = .ok z w) (h1 : ∀ v ∈ (Builtin.zeroCells z.cells m).toList, v.oneCell' = true)
    (g o c : Nat) {cur : Array Value} (hh : w.heap[g]? = some (.cells cur e (0, 0))) (hfit : o + (Builtin.zeroCells z.cells m).size ≤ cur.size) :
    (Builtin.clear_ #[t] ty #[.slice (some ⟨g, o, none⟩) m c]).run P w = .ok (.tuple #[]) (w.setCells g o (Builtin.zeroCells z.cells m).toList) := by
  rcases Nat.eq_zero_or_pos m with rfl | hm
  · have e0 : (Builtin.zeroCells z.cells 0).toList = [] := by simp [Builtin.zeroCells]
    rw [e0]
    simp [Builtin.clear_, run_underlying hu, World.setCells]
  · have hst := run_storeCells_cells (P := P) g o (Builtin.zeroCells z.cells m).toList 0 w
      (fun j hj => by rw [cell_of_row w g _ cur e (0, 0) hh]; rw [Array.length_toList] at hj; simp; omega) (fun j _ => blk_frozen hh _) h1
    simp only [Nat.add_zero] at hst
    obtain ⟨m', rfl⟩ : ∃ m', m = m' + 1 := ⟨m - 1, by omega⟩
    simp [Builtin.clear_, run_underlying hu, hz, hst, Result.andThen, Sem.run_bind]

/-- Behind stores into the cells from element i on: the first i elements are as they were. -/
theorem R_first {α : Type} {d : Kd α} {e : Nat} {w : World} {base : Nat} {ok : Nat → Prop} {g n cap i : Nat} {xs : List α} (h : d.R e w base ok (.slice (some ⟨g, 0, none⟩) n cap) xs) (hi : i ≤ n) (vs : List Value) (hfit : i * d.sz + vs.length ≤ cap * d.sz) :
    d.R e (w.setCells g (i * d.sz) vs) base ok (.slice (some ⟨g, 0, none⟩) i cap) (xs.take i) := by
  have hn : n = xs.length := (Kd.R_reads' h).1
  obtain ⟨h0, inner, ⟨hl, ho⟩, hr⟩ := Kd.R_take h (m := i) (by omega)
  refine ⟨h0, inner, ⟨hl, ?_⟩, hr.imp_ (fun _ _ hp => d.M_move (fun k hk => setCells_far vs _ k (by rintro rfl; exact hk.2 rfl)) hp)⟩
  rcases ho with ⟨hv, _⟩ | ⟨g', cap', cur, hv, hg, hh, hc1, hc2, hc3, hc4⟩
  · cases hv
  · injection hv with e1 e2 e3
    injection e1 with e1
    injection e1 with e1
    subst e1 e3
    have hti : (xs.take i).length = i := by rw [List.length_take]; omega
    rw [hti] at hc1 hc4 ⊢
    obtain ⟨cur', hh', hs', hl'⟩ := setCells_row vs (i * d.sz) w cur hh (by rw [hc3]; exact hfit)
    refine .inr ⟨g, cap, cur', rfl, hg, hh', hc1, hc2, by rw [hs', hc3], ?_⟩
    rw [hl', List.append_assoc, List.take_append_of_le_length (by rw [List.length_take, Array.length_toList, hc3]; have := Nat.mul_le_mul_right d.sz hc1; omega), List.take_of_length_le (by rw [List.length_take]; omega)]
    exact hc4

theorem below_setCells {B : Nat} {w w' : World} (h : Below B w w') {g o : Nat} {vs : List Value} (hg : B ≤ g) : Below B w (w'.setCells g o vs) := by
  obtain ⟨h1, h2, h3, h4⟩ := setCells_same g vs o w'
  exact h.trans ⟨h1, h2, h3, by rw [h4]; exact Nat.le_refl _, fun k hk => setCells_far vs o k (by omega)⟩

end Go.Proofs.YtddjnicmpgbcgaaY
