/- What came in, opened into a kind's reading: a slice of elements that each open. -/
import Derived.Test.YtlecnodlnkanaaaWWords
import Derived.Deep.Slices
import Derived.DataReads
import Derived.ChangeArms
namespace Go.Proofs.YtlecnodlnkanaaaY
open Go.RowKit Go.Proofs.YtlecnodlnkanaaaW.PrintWords

/-- Whatever reads at the type t reads as something of the kind. -/
def Opens (P : Program) (t : TypeId) {α : Type} (kd : Kd α) : Prop :=
  ∀ (H : Type) (enc : TypeId × Value → H) (w : World) (base : Nat) (sp : Nat → Bool) (held : Bool) (fuel : Nat) (cs : List Value) (x : DataW H × List MemPlace), DataW.trod enc P w base sp held fuel t cs = some x → ∃ a : α, kd.K w a cs

theorem opens_string {P : Program} {t : TypeId} (ht : P.underlying t = some .string) : Opens P t Kd.string := by
  intro H enc w base sp held fuel cs x h
  obtain ⟨s, rfl, _⟩ := DataW.trod_string ht h
  exact ⟨s, rfl⟩
theorem opens_int {P : Program} {t : TypeId} {k : IntKind} (ht : P.underlying t = some (.int k)) : Opens P t (Kd.int k) := by
  intro H enc w base sp held fuel cs x h
  obtain ⟨s, rfl, _⟩ := DataW.trod_int ht h
  exact ⟨s, rfl⟩

theorem opens_row {P : Program} {t e : TypeId} {α : Type} {kd : Kd α} (ht : P.underlying t = some (.slice e)) (hs : P.cellsOf e = kd.sz) (ho : Opens P e kd)
    {H : Type} {enc : TypeId × Value → H} {w : World} {base : Nat} {sp : Nat → Bool} {held : Bool} {fuel : Nat} {cs : List Value} {x : DataW H × List MemPlace} (h : DataW.trod enc P w base sp held fuel t cs = some x) :
    ∃ (A : Option Addr) (c : Nat) (xs : List α), cs = [.slice A xs.length c] ∧ xs.length ≤ c ∧ kd.C w A xs.length xs := by
  rcases Go.Deep.open_slice ht h with ⟨rfl, _⟩ | ⟨a, len, cap, m, n, D, Pl, rfl, _, hl, hc, hm, _, hel⟩
  · exact ⟨none, 0, [], rfl, Nat.le_refl _, rfl, Nat.zero_le _, fun h => absurd h (by simp)⟩
  · have hlm : len ≤ m := by rw [hm]; split <;> omega
    have hone : ∀ i : Nat, i < len → ∃ (x : α) (cs' : List Value), kd.K w x cs' ∧ w.cells? base (a.add (i * P.cellsOf e)) (P.cellsOf e) = some cs' := by
      intro i hi
      obtain ⟨cs', h1, h2⟩ := hel i (by omega)
      obtain ⟨x, hx⟩ := ho _ _ _ _ _ _ _ _ _ h2
      exact ⟨x, cs', hx, h1⟩
    have hall : ∀ k : Nat, k ≤ len → ∃ xs : List α, xs.length = k ∧ ∀ (j : Nat) (p : α), xs[j]? = some p → ∃ cs', kd.K w p cs' ∧ w.cells? base (a.add (j * P.cellsOf e)) (P.cellsOf e) = some cs' := by
      intro k
      induction k with
      | zero => exact fun _ => ⟨[], rfl, fun j p hp => by simp at hp⟩
      | succ k ih =>
        intro hk
        obtain ⟨xs, hl, hx⟩ := ih (by omega)
        obtain ⟨x, cs', h1, h2⟩ := hone k (by omega)
        refine ⟨xs ++ [x], by simp [hl], fun j p hp => ?_⟩
        by_cases hj : j < xs.length
        · rw [List.getElem?_append_left hj] at hp
          exact hx j p hp
        · have hjk : j = k := by
            have := (List.getElem?_eq_some_iff.1 hp).1
            simp at this
            omega
          subst hjk
          rw [List.getElem?_append_right (by omega), hl] at hp
          simp at hp
          subst hp
          exact ⟨cs', h1, h2⟩
    obtain ⟨xs, hl2, hx⟩ := hall len (Nat.le_refl _)
    subst hl2
    refine ⟨some a, cap, xs, rfl, hl, rfl, Nat.le_trans hl hc, fun _ => ⟨a, rfl, fun j p hp => ?_⟩⟩
    obtain ⟨cs', h1, h2⟩ := hx j p hp
    obtain ⟨_, h4, h5⟩ := World.cells?_some h2
    refine ⟨cs', h4.trans hs, h1, fun i u hu => ?_⟩
    have hi : i < P.cellsOf e := by rw [← h4]; exact (List.getElem?_eq_some_iff.1 hu).1
    have := h5 i hi
    rw [hu] at this
    rw [← this, ← hs]
    congr 1
    simp only [Addr.add]
    by_cases e1 : j * P.cellsOf e = 0 <;> by_cases e2 : i = 0 <;> simp [e1, e2, Nat.add_assoc]

theorem opens_slice {P : Program} {t e : TypeId} {α : Type} {kd : Kd α} (ht : P.underlying t = some (.slice e)) (hs : P.cellsOf e = kd.sz) (ho : Opens P e kd) : Opens P t (Kd.slice e kd) := by
  intro H enc w base sp held fuel cs x h
  obtain ⟨A, c, xs, rfl, h1, h2⟩ := opens_row ht hs ho h
  exact ⟨xs, A, c, rfl, h1, h2⟩
theorem wf_u8 {n : Int} (h : (Lit.int .u8 n).wf = true) : 0 ≤ n ∧ n ≤ 255 := by
  have h' : (decide ((0 : Int) ≤ n) && decide (n ≤ 255)) = true := h
  simpa using h'
theorem wf_i64 {n : Int} (h : (Lit.int .i64 n).wf = true) : -9223372036854775808 ≤ n ∧ n ≤ 9223372036854775807 := by
  have h' : (decide ((-9223372036854775808 : Int) ≤ n) && decide (n ≤ 9223372036854775807)) = true := h
  simpa using h'
end Go.Proofs.YtlecnodlnkanaaaY
