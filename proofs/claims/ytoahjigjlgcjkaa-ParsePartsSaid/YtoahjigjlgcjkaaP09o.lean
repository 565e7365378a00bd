/- A parser's state, and bytes, as parameters, opened. -/
import Derived.Test.YtoahjigjlgcjkaaXK
import Derived.Test.YtoahjigjlgcjkaaYAll
import Derived.Test.YtoahjigjlgcjkaaP06o
import Derived.Test.YtoahjigjlgcjkaaP15o
namespace Go.Proofs.Ytoahjigjlgcjkaa.X
open Go.RowKit Go.Proofs.YtoahjigjlgcjkaaW.PrintWords Go.Proofs.YtoahjigjlgcjkaaW.PrintLast Go.Proofs.YtoahjigjlgcjkaaW.PrintMore
attribute [local go_sem] max2_int min2_int max_two min_two
set_option linter.unusedVariables false
set_option linter.unusedSimpArgs false

open Go.Proofs.YtoahjigjlgcjkaaY
theorem list14o {α : Type} {l : List α} (h : l.length = 14) : ∃ a b c d e f g i j k m n o p, l = [a, b, c, d, e, f, g, i, j, k, m, n, o, p] := by
  match l, h with
  | [a, b, c, d, e, f, g, i, j, k, m, n, o, p], _ => exact ⟨a, b, c, d, e, f, g, i, j, k, m, n, o, p, rfl⟩
theorem list7o {α : Type} {l : List α} (h : l.length = 7) : ∃ a b c d e f g, l = [a, b, c, d, e, f, g] := by
  match l, h with
  | [a, b, c, d, e, f, g], _ => exact ⟨a, b, c, d, e, f, g, rfl⟩
set_option maxRecDepth 100000 in
theorem opens_state : Opens Try.prog 25 k25 := by
  intro H enc w base sp held fuel cs x h
  obtain ⟨xs, n, _, _, hl, hlen, hf⟩ := DataW.trod_struct Try.underlying25 h
  obtain ⟨c0, c1, c2, c3, c4, c5, c6, c7, c8, c9, c10, c11, c12, c13, rfl⟩ := list14o (hl.trans (by kernel_rfl))
  obtain ⟨y0, y1, y2, y3, y4, y5, y6, rfl⟩ := list7o hlen
  have u9 : Try.prog.cellsOf 9 = 1 := by kernel_rfl
  have u3 : Try.prog.cellsOf 3 = 1 := by kernel_rfl
  have u8 : Try.prog.cellsOf 23 = 8 := by kernel_rfl
  have h0 : DataW.trod enc Try.prog w base sp held n 3 (([c0, c1, c2, c3, c4, c5, c6, c7, c8, c9, c10, c11, c12, c13].drop 0).take (Try.prog.cellsOf 3)) = some y0 := hf 0 _ rfl
  rw [u3] at h0
  have h1 : DataW.trod enc Try.prog w base sp held n 23 (([c0, c1, c2, c3, c4, c5, c6, c7, c8, c9, c10, c11, c12, c13].drop 1).take (Try.prog.cellsOf 23)) = some y1 := hf 1 _ rfl
  rw [u8] at h1
  have h2 : DataW.trod enc Try.prog w base sp held n 3 (([c0, c1, c2, c3, c4, c5, c6, c7, c8, c9, c10, c11, c12, c13].drop 9).take (Try.prog.cellsOf 3)) = some y2 := hf 2 _ rfl
  rw [u3] at h2
  have h3 : DataW.trod enc Try.prog w base sp held n 3 (([c0, c1, c2, c3, c4, c5, c6, c7, c8, c9, c10, c11, c12, c13].drop 10).take (Try.prog.cellsOf 3)) = some y3 := hf 3 _ rfl
  rw [u3] at h3
  have h4 : DataW.trod enc Try.prog w base sp held n 9 (([c0, c1, c2, c3, c4, c5, c6, c7, c8, c9, c10, c11, c12, c13].drop 11).take (Try.prog.cellsOf 9)) = some y4 := hf 4 _ rfl
  rw [u9] at h4
  have h5 : DataW.trod enc Try.prog w base sp held n 9 (([c0, c1, c2, c3, c4, c5, c6, c7, c8, c9, c10, c11, c12, c13].drop 12).take (Try.prog.cellsOf 9)) = some y5 := hf 5 _ rfl
  rw [u9] at h5
  have h6 : DataW.trod enc Try.prog w base sp held n 9 (([c0, c1, c2, c3, c4, c5, c6, c7, c8, c9, c10, c11, c12, c13].drop 13).take (Try.prog.cellsOf 9)) = some y6 := hf 6 _ rfl
  rw [u9] at h6
  obtain ⟨s0, e0, _⟩ := DataW.trod_int Try.underlying3 h0
  obtain ⟨s1, k1⟩ := opens_node _ _ _ _ _ _ _ _ _ h1
  have e1 := k23_open k1
  obtain ⟨s2, e2, _⟩ := DataW.trod_int Try.underlying3 h2
  obtain ⟨s3, e3, _⟩ := DataW.trod_int Try.underlying3 h3
  obtain ⟨s4, e4, _⟩ := DataW.trod_string Try.underlying9 h4
  obtain ⟨s5, e5, _⟩ := DataW.trod_string Try.underlying9 h5
  obtain ⟨s6, e6, _⟩ := DataW.trod_string Try.underlying9 h6
  simp at e0 e1 e2 e3 e4 e5 e6
  obtain ⟨rfl, rfl, rfl, rfl, rfl, rfl, rfl, rfl⟩ := e1
  subst e0 e2 e3 e4 e5 e6
  exact ⟨⟨s0, s1, s2, s3, s4, s5, s6⟩, k25_mk w _⟩
set_option maxRecDepth 100000 in
theorem open_state {H : Type} {enc : TypeId × Value → H} {w : World} {base : Nat} {sp : Nat → Bool} {held : Bool} {r : Reach} {b0 : Nat} {v : Value} {d : DataW H} {ps : List MemPlace} (hval : Value.okWide Try.prog w r b0 25 v) (h : DataW.Trod enc Try.prog w base sp held 25 v d ps) :
    ∃ x : S25, v = .agg #[.int .i64 x.f0, .string x.f1.f0, .string x.f1.f1, .int .u8 x.f1.f2, .int .i64 x.f1.f3, .int .i64 x.f1.f4, .int .i64 x.f1.f5, .int .i64 x.f1.f6, .string x.f1.f7, .int .i64 x.f2, .int .i64 x.f3, .string x.f4, .string x.f5, .string x.f6] := by
  obtain ⟨cs, rfl, _⟩ := Go.WideShapes.okWide_struct Try.underlying25 hval
  obtain ⟨fuel, hf⟩ := h
  obtain ⟨x, hx⟩ := opens_state _ _ _ _ _ _ _ _ _ hf
  have he := k25_open hx
  simp only [Value.cells] at he
  exact ⟨x, by congr 1; exact Array.ext' he⟩
set_option maxRecDepth 100000 in
theorem open_bytes {H : Type} {enc : TypeId × Value → H} {w : World} {base : Nat} {sp : Nat → Bool} {held : Bool} {r : Reach} {b0 : Nat} {v : Value} {d : DataW H} {ps : List MemPlace} (hval : Value.okWide Try.prog w r b0 26 v) (h : DataW.Trod enc Try.prog w base sp held 26 v d ps) :
    ∃ A c xs, v = .slice A (List.length xs) c ∧ xs.length ≤ c ∧ (Kd.int .u8).C w A xs.length xs ∧ ∀ y ∈ xs, 0 ≤ y ∧ y ≤ 255 := by
  obtain ⟨a, len, cap, rfl⟩ := Go.WideShapes.okWide_slice Try.underlying26 hval
  obtain ⟨fuel, hf⟩ := h
  obtain ⟨A, c, xs, he, h1, h2, h3⟩ := opens_rowP Try.underlying26 (by kernel_rfl) (opensP_int Try.underlying5) hf
  simp [Value.cells] at he
  obtain ⟨rfl, rfl, rfl⟩ := he
  exact ⟨_, _, xs, rfl, h1, h2, fun y hy => wf_u8 (h3 y hy)⟩

end Go.Proofs.Ytoahjigjlgcjkaa.X
