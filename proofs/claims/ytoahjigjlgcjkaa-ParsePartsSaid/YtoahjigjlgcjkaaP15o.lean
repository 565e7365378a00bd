/- Rows that came in, opened; and few of them. -/
import Derived.Test.YtoahjigjlgcjkaaXK
import Derived.Test.YtoahjigjlgcjkaaXreelkeeperlaw03Few
import Derived.Test.YtoahjigjlgcjkaaYAll
namespace Go.Proofs.Ytoahjigjlgcjkaa.X
open Go.RowKit Go.Proofs.YtoahjigjlgcjkaaW.PrintWords Go.Proofs.YtoahjigjlgcjkaaW.PrintLast Go.Proofs.YtoahjigjlgcjkaaW.PrintMore
attribute [local go_sem] max2_int min2_int max_two min_two
set_option linter.unusedVariables false
set_option linter.unusedSimpArgs false

open Go.Proofs.YtoahjigjlgcjkaaY
/-- Whatever reads at the type t reads as something of the kind, of which p is told. -/
def OpensP (P : Program) (t : TypeId) {α : Type} (kd : Kd α) (p : α → Prop) : Prop :=
  ∀ (H : Type) (enc : TypeId × Value → H) (w : World) (base : Nat) (sp : Nat → Bool) (held : Bool) (fuel : Nat) (cs : List Value) (x : DataW H × List MemPlace), DataW.trod enc P w base sp held fuel t cs = some x → ∃ a : α, kd.K w a cs ∧ p a
theorem opens_rowP {P : Program} {t e : TypeId} {α : Type} {kd : Kd α} {pr : α → Prop} (ht : P.underlying t = some (.slice e)) (hs : P.cellsOf e = kd.sz) (ho : OpensP P e kd pr)
    {H : Type} {enc : TypeId × Value → H} {w : World} {base : Nat} {sp : Nat → Bool} {held : Bool} {fuel : Nat} {cs : List Value} {x : DataW H × List MemPlace} (h : DataW.trod enc P w base sp held fuel t cs = some x) :
    ∃ (A : Option Addr) (c : Nat) (xs : List α), cs = [.slice A xs.length c] ∧ xs.length ≤ c ∧ kd.C w A xs.length xs ∧ ∀ x ∈ xs, pr x := by
  rcases Go.Deep.open_slice ht h with ⟨rfl, _⟩ | ⟨a, len, cap, m, n, D, Pl, rfl, _, hl, hc, hm, _, hel⟩
  · exact ⟨none, 0, [], rfl, Nat.le_refl _, ⟨rfl, Nat.zero_le _, fun h => absurd h (by simp)⟩, fun x hx => by cases hx⟩
  · have hlm : len ≤ m := by rw [hm]; split <;> omega
    have hone : ∀ i : Nat, i < len → ∃ (x : α) (cs' : List Value), (kd.K w x cs' ∧ pr x) ∧ w.cells? base (a.add (i * P.cellsOf e)) (P.cellsOf e) = some cs' := by
      intro i hi
      obtain ⟨cs', h1, h2⟩ := hel i (by omega)
      obtain ⟨x, hx⟩ := ho _ _ _ _ _ _ _ _ _ h2
      exact ⟨x, cs', hx, h1⟩
    have hall : ∀ k : Nat, k ≤ len → ∃ xs : List α, xs.length = k ∧ ∀ (j : Nat) (p : α), xs[j]? = some p → ∃ cs', (kd.K w p cs' ∧ pr p) ∧ w.cells? base (a.add (j * P.cellsOf e)) (P.cellsOf e) = some cs' := by
      intro k
      induction k with
      | zero => exact fun _ => ⟨[], rfl, fun j p hp => by simp at hp⟩
      | succ k ih =>
        intro hk
        obtain ⟨xs, hl, hx⟩ := ih (by omega)
        obtain ⟨x, cs', h1, h2⟩ := hone k (by omega)
        refine ⟨xs ++ [x], by simp [hl], fun j p hp => ?_⟩
        by_cases hj : j < xs.length
        · rw [List.getElem?_append_left hj] at hp
          exact hx j p hp
        · have hjk : j = k := by
            have := (List.getElem?_eq_some_iff.1 hp).1
            simp at this
            omega
          subst hjk
          rw [List.getElem?_append_right (by omega), hl] at hp
          simp at hp
          subst hp
          exact ⟨cs', h1, h2⟩
    obtain ⟨xs, hl2, hx⟩ := hall len (Nat.le_refl _)
    subst hl2
    refine ⟨some a, cap, xs, rfl, hl, ⟨rfl, Nat.le_trans hl hc, fun _ => ⟨a, rfl, fun j p hp => ?_⟩⟩, fun x hx' => ?_⟩
    · obtain ⟨cs', ⟨h1, _⟩, h2⟩ := hx j p hp
      obtain ⟨_, h4, h5⟩ := World.cells?_some h2
      refine ⟨cs', h4.trans hs, h1, fun i u hu => ?_⟩
      have hi : i < P.cellsOf e := by rw [← h4]; exact (List.getElem?_eq_some_iff.1 hu).1
      have := h5 i hi
      rw [hu] at this
      rw [← this, ← hs]
      congr 1
      simp only [Addr.add]
      by_cases e1 : j * P.cellsOf e = 0 <;> by_cases e2 : i = 0 <;> simp [e1, e2, Nat.add_assoc]
    · obtain ⟨j, hj, rfl⟩ := List.mem_iff_getElem.1 hx'
      obtain ⟨_, ⟨_, hp⟩, _⟩ := hx j _ (List.getElem?_eq_getElem hj)
      exact hp
theorem opensP_int {P : Program} {t : TypeId} {k : IntKind} (ht : P.underlying t = some (.int k)) : OpensP P t (Kd.int k) (fun n => (Lit.int k n).wf = true) := by
  intro H enc w base sp held fuel cs x h
  obtain ⟨s, rfl, _, hw⟩ := DataW.trod_int ht h
  exact ⟨s, rfl, hw⟩
theorem opensP_slice {P : Program} {t e : TypeId} {α : Type} {kd : Kd α} {pr : α → Prop} (ht : P.underlying t = some (.slice e)) (hs : P.cellsOf e = kd.sz) (ho : OpensP P e kd pr) : OpensP P t (Kd.slice e kd) (fun xs => ∀ x ∈ xs, pr x) := by
  intro H enc w base sp held fuel cs x h
  obtain ⟨A, c, xs, rfl, h1, h2, h3⟩ := opens_rowP ht hs ho h
  exact ⟨xs, ⟨A, c, rfl, h1, h2⟩, h3⟩
set_option maxRecDepth 100000 in
theorem open_rows {H : Type} {enc : TypeId × Value → H} {w : World} {base : Nat} {sp : Nat → Bool} {held : Bool} {r : Reach} {b0 : Nat} {v : Value} {d : DataW H} {ps : List MemPlace} (hval : Value.okWide Try.prog w r b0 34 v) (h : DataW.Trod enc Try.prog w base sp held 34 v d ps) :
    ∃ A c xs, v = .slice A (List.length xs) c ∧ xs.length ≤ c ∧ (Kd.slice 5 (Kd.int .u8)).C w A xs.length xs ∧ ∀ x ∈ xs, ∀ y ∈ x, 0 ≤ y ∧ y ≤ 255 := by
  obtain ⟨a, len, cap, rfl⟩ := Go.WideShapes.okWide_slice Try.underlying34 hval
  obtain ⟨fuel, hf⟩ := h
  obtain ⟨A, c, xs, he, h1, h2, h3⟩ := opens_rowP Try.underlying34 (by kernel_rfl) (opensP_slice Try.underlying26 (by kernel_rfl) (opensP_int Try.underlying5)) hf
  simp [Value.cells] at he
  obtain ⟨rfl, rfl, rfl⟩ := he
  exact ⟨_, _, xs, rfl, h1, h2, fun x hx y hy => wf_u8 (h3 x hx y hy)⟩
theorem few3_ev (l : List (List Int)) : ∃ b, Ev (fun k => reelkeeperlaw03_Few.f k l) b ∧ (b = true → l.length ≤ 60) := by
  have key : ∀ (d i : Nat), i + d = 61 → ∃ b, Ev (fun k => reelkeeperlaw03_Few.l0 k l (i : Int)) b ∧ (b = true → l.length ≤ 60) := by
    intro d
    induction d with
    | zero =>
      intro i hi
      refine ⟨decide ((l.length : Int) ≤ 60), Ev.step (fun _ => rfl) ?_, fun h => by have := of_decide_eq_true h; omega⟩
      simp only [reelkeeperlaw03_Few.l0]
      rw [decide_eq_false (show ¬ (i : Int) ≤ 60 by omega)]
      by_cases h : (i : Int) < (l.length : Int)
      · simp only [if_pos h]
        refine Ev.step (fun _ => rfl) ?_
        simp only [reelkeeperlaw03_Few.j1, Bool.false_eq_true, if_false]
        exact Ev.now _
      · simp only [if_neg h]
        refine Ev.step (fun _ => rfl) ?_
        simp only [reelkeeperlaw03_Few.j1, Bool.false_eq_true, if_false]
        exact Ev.now _
    | succ d ih =>
      intro i hi
      by_cases h : (i : Int) < (l.length : Int)
      · by_cases hb : ((rd_L9 l (i : Int)).length : Int) > 600
        · refine ⟨false, Ev.step (fun _ => rfl) ?_, fun h => by cases h⟩
          simp only [reelkeeperlaw03_Few.l0]
          rw [decide_eq_true (show (i : Int) ≤ 60 by omega)]
          simp only [if_pos h]
          refine Ev.step (fun _ => rfl) ?_
          simp only [reelkeeperlaw03_Few.j1, if_true]
          simp only [if_pos (show (0 : Int) ≤ (i : Int) by omega), if_pos h, if_pos hb]
          exact Ev.now _
        · obtain ⟨b, hev, hl⟩ := ih (i + 1) (by omega)
          refine ⟨b, Ev.step (fun _ => rfl) ?_, hl⟩
          simp only [reelkeeperlaw03_Few.l0]
          rw [decide_eq_true (show (i : Int) ≤ 60 by omega)]
          simp only [if_pos h]
          refine Ev.step (fun _ => rfl) ?_
          simp only [reelkeeperlaw03_Few.j1, if_true]
          simp only [if_pos (show (0 : Int) ≤ (i : Int) by omega), if_pos h, if_neg hb]
          have hw : wrap64 ((i : Int) + 1) = ((i + 1 : Nat) : Int) := by unfold wrap64; omega
          simp only [hw]
          exact hev
      · refine ⟨decide ((l.length : Int) ≤ 60), Ev.step (fun _ => rfl) ?_, fun h => by have := of_decide_eq_true h; omega⟩
        simp only [reelkeeperlaw03_Few.l0, if_neg h]
        refine Ev.step (fun _ => rfl) ?_
        simp only [reelkeeperlaw03_Few.j1, Bool.false_eq_true, if_false]
        exact Ev.now _
  exact key 61 0 rfl

end Go.Proofs.Ytoahjigjlgcjkaa.X
