/- Two lists of nodes compared, plainly. -/
import Derived.Test.YtlecnodlnkanaaaXK
import Derived.Test.YtlecnodlnkanaaaXGtree
import Derived.Test.YtlecnodlnkanaaaXGslices
import Derived.Test.YtlecnodlnkanaaaXGtree
import Derived.Test.YtlecnodlnkanaaaXGtree
import Derived.Test.YtlecnodlnkanaaaXreelkeeperlaw06Few
import Derived.Test.YtlecnodlnkanaaaXGpath
import Derived.Test.YtlecnodlnkanaaaYAll
import Derived.Test.YtlecnodlnkanaaaYAll
import Derived.Test.YtlecnodlnkanaaaPGA
import Derived.Test.YtlecnodlnkanaaaPGA
import Derived.Test.YtlecnodlnkanaaaP02p
import Derived.Test.YtlecnodlnkanaaaP06a
namespace Go.Proofs.Ytlecnodlnkanaaa.X
open Go.RowKit Go.Proofs.YtlecnodlnkanaaaW.PrintWords Go.Proofs.YtlecnodlnkanaaaW.PrintLast Go.Proofs.YtlecnodlnkanaaaW.PrintMore
attribute [local go_sem] max2_int min2_int max_two min_two
set_option linter.unusedVariables false
set_option linter.unusedSimpArgs false

open Go.Proofs.YtlecnodlnkanaaaY
def neB (x y : Nd) : Bool := !(x.f0.toList == y.f0.toList) || (!(x.f1.toList == y.f1.toList) || (!(x.f2 == y.f2) || (!(x.f3 == y.f3) || (!(x.f4 == y.f4) || (!(x.f5 == y.f5) || (!(x.f6 == y.f6) || !(x.f7.toList == y.f7.toList)))))))
def eqFrom (a b : List Nd) : Nat → Nat → Bool
  | 0, _ => true
  | d + 1, i => if neB (rd_T23 a (i : Int)) (rd_T23 b (i : Int)) = true then false else eqFrom a b d (i + 1)
def sameB (a b : List Nd) : Bool := if a.length = b.length then eqFrom a b a.length 0 else false
theorem same_from (a b : List Nd) (hl : a.length ≤ 30) (hb : a.length = b.length) : ∀ (d i : Nat), i + d = a.length → Ev (fun k => slices_Equal_Node.l0 k a b (a.length : Int) (i : Int)) (eqFrom a b d i) := by
  intro d
  induction d with
  | zero =>
    intro i hi
    refine Ev.step (fun _ => rfl) ?_
    simp only [slices_Equal_Node.l0]
    exact Ev.if_neg (by omega) (Ev.now _)
  | succ d ih =>
    intro i hi
    have hw : wrap64 ((i : Int) + 1) = ((i + 1 : Nat) : Int) := by rw [wrap_id (by omega) (by omega)]; omega
    refine Ev.step (fun _ => rfl) ?_
    simp only [slices_Equal_Node.l0]
    refine Ev.if_pos (by omega) ?_
    refine Ev.if_pos (by omega) ?_
    refine Ev.if_pos (by omega) ?_
    refine Ev.if_pos (by omega) ?_
    rw [hw]
    unfold eqFrom
    cases hn : neB (rd_T23 a (i : Int)) (rd_T23 b (i : Int)) with
    | true => exact Ev.if_pos hn (Ev.now _)
    | false => exact Ev.if_neg (by show ¬ neB _ _ = true; rw [hn]; decide) (ih (i + 1) (by omega))
theorem same_ev (a b : List Nd) (hl : a.length ≤ 30) : Ev (fun k => tree_Same.f k a b) (sameB a b) := by
  unfold tree_Same.f
  refine Ev.bind (a := sameB a b) ?_ (Ev.now _)
  unfold slices_Equal_Node.f sameB
  by_cases h : a.length = b.length
  · rw [if_pos h]
    exact Ev.if_pos (by omega) (same_from a b hl h a.length 0 (by omega))
  · rw [if_neg h]
    exact Ev.if_neg (by omega) (Ev.now _)
theorem bytes_eq {a b : ByteArray} (e : a.toList = b.toList) : a = b := by
  rw [ByteArray.toList_eq, ByteArray.toList_eq] at e
  exact ByteArray.ext (Array.ext' e)
theorem neB_iff {x y : Nd} : neB x y = false ↔ x = y := by
  obtain ⟨a0, a1, a2, a3, a4, a5, a6, a7⟩ := x
  obtain ⟨b0, b1, b2, b3, b4, b5, b6, b7⟩ := y
  unfold neB
  simp only [Bool.or_eq_false_iff, Bool.not_eq_false', beq_iff_eq]
  constructor
  · rintro ⟨h0, h1, rfl, rfl, rfl, rfl, rfl, h7⟩
    rw [bytes_eq h0, bytes_eq h1, bytes_eq h7]
  · intro h; cases h; exact ⟨rfl, rfl, rfl, rfl, rfl, rfl, rfl, rfl⟩
theorem eqFrom_iff (a b : List Nd) (hb : a.length = b.length) : ∀ (d i : Nat), i + d = a.length → (eqFrom a b d i = true ↔ ∀ j, i ≤ j → j < a.length → a[j]? = b[j]?)
  | 0, i, h => ⟨fun _ j h1 h2 => absurd h2 (by omega), fun _ => rfl⟩
  | d + 1, i, h => by
    unfold eqFrom
    have ih := eqFrom_iff a b hb d (i + 1) (by omega)
    rw [rd_at (l := a) (i := i) (by omega), rd_at (l := b) (i := i) (by omega)]
    cases hn : neB a[i] b[i] with
    | true =>
      rw [if_pos rfl]
      refine ⟨(fun h => by cases h), fun h2 => ?_⟩
      have h3 := h2 i (Nat.le_refl _) (by omega)
      rw [List.getElem?_eq_getElem (by omega), List.getElem?_eq_getElem (by omega)] at h3
      have := neB_iff.2 (Option.some.inj h3)
      rw [this] at hn
      cases hn
    | false =>
      rw [if_neg (by decide), ih]
      refine ⟨fun h2 j h3 h4 => ?_, fun h2 j h3 h4 => h2 j (by omega) h4⟩
      rcases Nat.lt_or_ge i j with h5 | h5
      · exact h2 j h5 h4
      · obtain rfl : j = i := by omega
        rw [List.getElem?_eq_getElem (by omega), List.getElem?_eq_getElem (by omega), neB_iff.1 hn]
theorem sameB_iff (a b : List Nd) : sameB a b = true ↔ a = b := by
  unfold sameB
  by_cases h : a.length = b.length
  · rw [if_pos h, eqFrom_iff a b h a.length 0 (by omega)]
    refine ⟨fun h2 => List.ext_getElem? fun j => ?_, fun e => by rw [e]; exact fun _ _ _ => rfl⟩
    rcases Nat.lt_or_ge j a.length with h3 | h3
    · exact h2 j (Nat.zero_le _) h3
    · rw [List.getElem?_eq_none h3, List.getElem?_eq_none (by omega)]
  · rw [if_neg h]
    exact ⟨(fun h => by cases h), fun e => absurd (by rw [e]) h⟩

end Go.Proofs.Ytlecnodlnkanaaa.X
