/- Rows of events as parameters, opened. -/
import Derived.Test.YtpedagpcblnnhaaXK
import Derived.Test.YtpedagpcblnnhaaYAll
import Derived.Test.YtpedagpcblnnhaaP06o
namespace Go.Proofs.Ytpedagpcblnnhaa.X
open Go.RowKit Go.Proofs.YtpedagpcblnnhaaW.PrintWords Go.Proofs.YtpedagpcblnnhaaW.PrintLast Go.Proofs.YtpedagpcblnnhaaW.PrintMore
attribute [local go_sem] max2_int min2_int max_two min_two
set_option linter.unusedVariables false
set_option linter.unusedSimpArgs false

open Go.Proofs.YtpedagpcblnnhaaY
theorem list10o {α : Type} {l : List α} (h : l.length = 10) : ∃ a b c d e f g i j k, l = [a, b, c, d, e, f, g, i, j, k] := by
  match l, h with
  | [a, b, c, d, e, f, g, i, j, k], _ => exact ⟨a, b, c, d, e, f, g, i, j, k, rfl⟩
theorem list3o {α : Type} {l : List α} (h : l.length = 3) : ∃ a b c, l = [a, b, c] := by
  match l, h with
  | [a, b, c], _ => exact ⟨a, b, c, rfl⟩
set_option maxRecDepth 100000 in
theorem opens_ev : Opens Try.prog 38 k38 := by
  intro H enc w base sp held fuel cs x h
  obtain ⟨xs, n, _, _, hl, hlen, hf⟩ := DataW.trod_struct Try.underlying38 h
  obtain ⟨c0, c1, c2, c3, c4, c5, c6, c7, c8, c9, rfl⟩ := list10o (hl.trans (by kernel_rfl))
  obtain ⟨y0, y1, y2, rfl⟩ := list3o hlen
  have u9 : Try.prog.cellsOf 9 = 1 := by kernel_rfl
  have u3 : Try.prog.cellsOf 3 = 1 := by kernel_rfl
  have u8 : Try.prog.cellsOf 31 = 8 := by kernel_rfl
  have h0 : DataW.trod enc Try.prog w base sp held n 3 (([c0, c1, c2, c3, c4, c5, c6, c7, c8, c9].drop 0).take (Try.prog.cellsOf 3)) = some y0 := hf 0 _ rfl
  rw [u3] at h0
  have h1 : DataW.trod enc Try.prog w base sp held n 31 (([c0, c1, c2, c3, c4, c5, c6, c7, c8, c9].drop 1).take (Try.prog.cellsOf 31)) = some y1 := hf 1 _ rfl
  rw [u8] at h1
  have h2 : DataW.trod enc Try.prog w base sp held n 9 (([c0, c1, c2, c3, c4, c5, c6, c7, c8, c9].drop 9).take (Try.prog.cellsOf 9)) = some y2 := hf 2 _ rfl
  rw [u9] at h2
  obtain ⟨s0, e0, _⟩ := DataW.trod_int Try.underlying3 h0
  obtain ⟨s1, k1⟩ := opens_node _ _ _ _ _ _ _ _ _ h1
  have e1 := k31_open k1
  obtain ⟨s2, e2, _⟩ := DataW.trod_string Try.underlying9 h2
  simp at e0 e1 e2
  obtain ⟨rfl, rfl, rfl, rfl, rfl, rfl, rfl, rfl⟩ := e1
  subst e0 e2
  exact ⟨⟨s0, s1, s2⟩, k38_mk w _⟩
set_option maxRecDepth 100000 in
theorem open_evs {H : Type} {enc : TypeId × Value → H} {w : World} {base : Nat} {sp : Nat → Bool} {held : Bool} {r : Reach} {b0 : Nat} {v : Value} {d : DataW H} {ps : List MemPlace} (hval : Value.okWide Try.prog w r b0 35 v) (h : DataW.Trod enc Try.prog w base sp held 35 v d ps) :
    ∃ A c xs, v = .slice A (List.length xs) c ∧ xs.length ≤ c ∧ k38.C w A xs.length xs := by
  obtain ⟨a, len, cap, rfl⟩ := Go.WideShapes.okWide_slice Try.underlying35 hval
  obtain ⟨fuel, hf⟩ := h
  obtain ⟨A, c, xs, he, h1, h2⟩ := opens_row Try.underlying35 (by kernel_rfl) opens_ev hf
  simp [Value.cells] at he
  obtain ⟨rfl, rfl, rfl⟩ := he
  exact ⟨_, _, xs, rfl, h1, h2⟩

end Go.Proofs.Ytpedagpcblnnhaa.X
