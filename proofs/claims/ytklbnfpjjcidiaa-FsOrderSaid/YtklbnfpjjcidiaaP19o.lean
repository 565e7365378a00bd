/- A file system as a parameter, opened. -/
import Derived.Test.YtklbnfpjjcidiaaXK
import Derived.Test.YtklbnfpjjcidiaaYAll
import Derived.Test.YtklbnfpjjcidiaaP06o
import Derived.Test.YtklbnfpjjcidiaaP06p
namespace Go.Proofs.Ytklbnfpjjcidiaa.X
open Go.RowKit Go.Proofs.YtklbnfpjjcidiaaW.PrintWords Go.Proofs.YtklbnfpjjcidiaaW.PrintLast Go.Proofs.YtklbnfpjjcidiaaW.PrintMore
attribute [local go_sem] max2_int min2_int max_two min_two
set_option linter.unusedVariables false
set_option linter.unusedSimpArgs false

open Go.Proofs.YtklbnfpjjcidiaaY
theorem list1 {α : Type} {l : List α} (h : l.length = 1) : ∃ a, l = [a] := by
  match l, h with
  | [a], _ => exact ⟨a, rfl⟩
set_option maxRecDepth 100000 in
theorem open_fs {H : Type} {enc : TypeId × Value → H} {w : World} {base : Nat} {sp : Nat → Bool} {held : Bool} {r : Reach} {b0 : Nat} {v : Value} {d : DataW H} {ps : List MemPlace} (hval : Value.okWide Try.prog w r b0 24 v) (h : DataW.Trod enc Try.prog w base sp held 24 v d ps) :
    ∃ A c xs, v = .agg #[.slice A (List.length xs) c] ∧ xs.length ≤ c ∧ k26.C w A xs.length xs := by
  obtain ⟨cs, rfl, _⟩ := Go.WideShapes.okWide_struct Try.underlying24 hval
  obtain ⟨fuel, hf⟩ := h
  obtain ⟨xs, n, _, _, hl, hlen, hf⟩ := DataW.trod_struct Try.underlying24 hf
  obtain ⟨c0, hc0⟩ := list1 (hl.trans (by kernel_rfl))
  rw [hc0] at hf
  obtain ⟨y0, rfl⟩ := list1 hlen
  have u9 : Try.prog.cellsOf 22 = 1 := by kernel_rfl
  have h0 : DataW.trod enc Try.prog w base sp held n 22 (([c0].drop 0).take (Try.prog.cellsOf 22)) = some y0 := hf 0 _ rfl
  rw [u9] at h0
  obtain ⟨A, c, xs, he, h1, h2⟩ := opens_row Try.underlying22 (by kernel_rfl) opens_node h0
  simp only [List.drop_zero, List.take_succ_cons, List.take_zero, List.cons.injEq, and_true] at he
  subst he
  simp only [Value.cells] at hc0
  exact ⟨A, c, xs, by congr 1; exact Array.ext' hc0, h1, h2⟩

end Go.Proofs.Ytklbnfpjjcidiaa.X
