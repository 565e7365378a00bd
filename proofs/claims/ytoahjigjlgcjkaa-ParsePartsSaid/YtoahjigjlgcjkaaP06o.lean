import Derived.Test.YtoahjigjlgcjkaaXK
import Derived.Test.YtoahjigjlgcjkaaYAll
namespace Go.Proofs.Ytoahjigjlgcjkaa.X
open Go.RowKit Go.Proofs.YtoahjigjlgcjkaaW.PrintWords Go.Proofs.YtoahjigjlgcjkaaW.PrintLast Go.Proofs.YtoahjigjlgcjkaaW.PrintMore
attribute [local go_sem] max2_int min2_int max_two min_two
set_option linter.unusedVariables false
set_option linter.unusedSimpArgs false

open Go.Proofs.YtoahjigjlgcjkaaY
theorem list8 {α : Type} {l : List α} (h : l.length = 8) : ∃ a b c d e f g i, l = [a, b, c, d, e, f, g, i] := by
  match l, h with
  | [a, b, c, d, e, f, g, i], _ => exact ⟨a, b, c, d, e, f, g, i, rfl⟩
set_option maxRecDepth 100000 in
theorem opens_node : Opens Try.prog 23 k23 := by
  intro H enc w base sp held fuel cs x h
  obtain ⟨xs, n, _, _, hl, hlen, hf⟩ := DataW.trod_struct Try.underlying23 h
  obtain ⟨c0, c1, c2, c3, c4, c5, c6, c7, rfl⟩ := list8 (hl.trans (by kernel_rfl))
  obtain ⟨y0, y1, y2, y3, y4, y5, y6, y7, rfl⟩ := list8 hlen
  have u9 : Try.prog.cellsOf 9 = 1 := by kernel_rfl
  have u5 : Try.prog.cellsOf 5 = 1 := by kernel_rfl
  have u3 : Try.prog.cellsOf 3 = 1 := by kernel_rfl
  have h0 : DataW.trod enc Try.prog w base sp held n 9 (([c0, c1, c2, c3, c4, c5, c6, c7].drop 0).take (Try.prog.cellsOf 9)) = some y0 := hf 0 _ rfl
  rw [u9] at h0
  have h1 : DataW.trod enc Try.prog w base sp held n 9 (([c0, c1, c2, c3, c4, c5, c6, c7].drop 1).take (Try.prog.cellsOf 9)) = some y1 := hf 1 _ rfl
  rw [u9] at h1
  have h2 : DataW.trod enc Try.prog w base sp held n 5 (([c0, c1, c2, c3, c4, c5, c6, c7].drop 2).take (Try.prog.cellsOf 5)) = some y2 := hf 2 _ rfl
  rw [u5] at h2
  have h3 : DataW.trod enc Try.prog w base sp held n 3 (([c0, c1, c2, c3, c4, c5, c6, c7].drop 3).take (Try.prog.cellsOf 3)) = some y3 := hf 3 _ rfl
  rw [u3] at h3
  have h4 : DataW.trod enc Try.prog w base sp held n 3 (([c0, c1, c2, c3, c4, c5, c6, c7].drop 4).take (Try.prog.cellsOf 3)) = some y4 := hf 4 _ rfl
  rw [u3] at h4
  have h5 : DataW.trod enc Try.prog w base sp held n 3 (([c0, c1, c2, c3, c4, c5, c6, c7].drop 5).take (Try.prog.cellsOf 3)) = some y5 := hf 5 _ rfl
  rw [u3] at h5
  have h6 : DataW.trod enc Try.prog w base sp held n 3 (([c0, c1, c2, c3, c4, c5, c6, c7].drop 6).take (Try.prog.cellsOf 3)) = some y6 := hf 6 _ rfl
  rw [u3] at h6
  have h7 : DataW.trod enc Try.prog w base sp held n 9 (([c0, c1, c2, c3, c4, c5, c6, c7].drop 7).take (Try.prog.cellsOf 9)) = some y7 := hf 7 _ rfl
  rw [u9] at h7
  obtain ⟨s0, e0, _⟩ := DataW.trod_string Try.underlying9 h0
  obtain ⟨s1, e1, _⟩ := DataW.trod_string Try.underlying9 h1
  obtain ⟨s2, e2, _⟩ := DataW.trod_int Try.underlying5 h2
  obtain ⟨s3, e3, _⟩ := DataW.trod_int Try.underlying3 h3
  obtain ⟨s4, e4, _⟩ := DataW.trod_int Try.underlying3 h4
  obtain ⟨s5, e5, _⟩ := DataW.trod_int Try.underlying3 h5
  obtain ⟨s6, e6, _⟩ := DataW.trod_int Try.underlying3 h6
  obtain ⟨s7, e7, _⟩ := DataW.trod_string Try.underlying9 h7
  simp at e0 e1 e2 e3 e4 e5 e6 e7
  subst e0 e1 e2 e3 e4 e5 e6 e7
  exact ⟨⟨s0, s1, s2, s3, s4, s5, s6, s7⟩, k23_mk w _⟩
set_option maxRecDepth 100000 in
theorem open_node {H : Type} {enc : TypeId × Value → H} {w : World} {base : Nat} {sp : Nat → Bool} {held : Bool} {r : Reach} {b0 : Nat} {v : Value} {d : DataW H} {ps : List MemPlace} (hval : Value.okWide Try.prog w r b0 23 v) (h : DataW.Trod enc Try.prog w base sp held 23 v d ps) :
    ∃ x : S23, v = .agg #[.string x.f0, .string x.f1, .int .u8 x.f2, .int .i64 x.f3, .int .i64 x.f4, .int .i64 x.f5, .int .i64 x.f6, .string x.f7] := by
  obtain ⟨cs, rfl, _⟩ := Go.WideShapes.okWide_struct Try.underlying23 hval
  obtain ⟨fuel, hf⟩ := h
  obtain ⟨x, hx⟩ := opens_node _ _ _ _ _ _ _ _ _ hf
  have he := k23_open hx
  simp only [Value.cells] at he
  exact ⟨x, by congr 1; exact Array.ext' he⟩

end Go.Proofs.Ytoahjigjlgcjkaa.X
