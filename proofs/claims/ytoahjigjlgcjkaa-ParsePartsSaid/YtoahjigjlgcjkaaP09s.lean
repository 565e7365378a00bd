/- What the parser tells, plainly. -/
import Derived.Test.YtoahjigjlgcjkaaXK
import Derived.Test.YtoahjigjlgcjkaaXGpj
import Derived.Test.YtoahjigjlgcjkaaYAll
import Derived.Test.YtoahjigjlgcjkaaYAll
import Derived.Test.YtoahjigjlgcjkaaYAll
import Derived.Test.YtoahjigjlgcjkaaYAll
import Derived.Test.YtoahjigjlgcjkaaPGA
import Derived.Test.YtoahjigjlgcjkaaPGA
import Derived.Test.YtoahjigjlgcjkaaPGA
import Derived.Test.YtoahjigjlgcjkaaPGA
import Derived.Test.YtoahjigjlgcjkaaPGA
import Derived.Test.YtoahjigjlgcjkaaPGE
import Derived.Test.YtoahjigjlgcjkaaPGE
import Derived.Test.YtoahjigjlgcjkaaP04g
import Derived.Test.YtoahjigjlgcjkaaP09a
namespace Go.Proofs.Ytoahjigjlgcjkaa.X
open Go.RowKit Go.Proofs.YtoahjigjlgcjkaaW.PrintWords Go.Proofs.YtoahjigjlgcjkaaW.PrintLast Go.Proofs.YtoahjigjlgcjkaaW.PrintMore
attribute [local go_sem] max2_int min2_int max_two min_two
set_option linter.unusedVariables false
set_option linter.unusedSimpArgs false

open Go.Proofs.YtoahjigjlgcjkaaY
set_option maxRecDepth 100000
/-- What is told is sound. -/
def EvOk (v : Evt) : Prop := (v.f0 = 0 → oneB v.f1 = true ∧ v.f1.f7 = ⟨#[]⟩) ∧ (v.f0 = 1 → 1 ≤ v.f2.size ∧ v.f2.size ≤ 512)
theorem evOver_ok : EvOk evOver := ⟨fun h => absurd h (by decide), fun h => absurd h (by decide)⟩
theorem nodeP_told {s : Pst} {h : Hd} {l : List Evt} {t : Pst} (e : nodeP s h [] = .ok (t, l)) : ∀ v ∈ l, EvOk v := by
  have one : ∀ ho : oneB (nodeOf s h) = true, EvOk ⟨0, nodeOf s h, ⟨#[]⟩⟩ := fun ho => ⟨fun _ => ⟨ho, rfl⟩, fun c => absurd (show (0 : Int) = 1 from c) (by decide)⟩
  unfold nodeP at e
  generalize (if h.f8 = 48 then (4000 : Int) else 0) = MX at e
  split at e
  · split at e
    · split at e
      · split at e
        · rename_i _ _ _ ho
          rw [Bool.and_eq_true] at ho
          split at e
          · cases e
            intro v hv
            simp only [List.nil_append, List.cons_append, List.mem_cons, List.not_mem_nil, or_false] at hv
            rcases hv with rfl | rfl
            · exact one ho.1
            · exact evOver_ok
          · cases e
            intro v hv
            simp only [List.nil_append, List.mem_cons, List.not_mem_nil, or_false] at hv
            subst hv
            exact one ho.1
        · cases e
      · cases e
    · cases e
  · cases e
theorem textP_told {s : Pst} {h : Hd} {own : ByteArray} {ph : Int} {l l' : List Evt} {t : Pst} (e : textP s h own ph l = .ok (t, l')) : l' = l := by
  unfold textP at e
  split at e
  · split at e
    · cases e; rfl
    · cases e
  · cases e
theorem headP_told {s : Pst} {x : List Int} {l : List Evt} {t : Pst} (e : headP s x [] = .ok (t, l)) : ∀ v ∈ l, EvOk v := by
  unfold headP at e
  split at e
  · split at e
    · cases e; intro v hv; cases hv
    · cases e
  · split at e
    · split at e
      · rw [textP_told e]; intro v hv; cases hv
      · split at e
        · rw [textP_told e]; intro v hv; cases hv
        · split at e
          · cases e
          · exact nodeP_told e
    · cases e
theorem dataP_told {s : Pst} {x : List Int} {l : List Evt} {t : Pst} (hx : x.length = 512) (h1 : 1 ≤ s.f3) (e : dataP s x [] = .ok (t, l)) : ∀ v ∈ l, EvOk v := by
  have one : ∀ m : Nat, 1 ≤ m → m ≤ 512 → EvOk ⟨1, nd00, strOfNums (x.take m)⟩ := fun m a b => ⟨fun c => absurd (show (1 : Int) = 0 from c) (by decide), fun _ => by
    show 1 ≤ (strOfNums (x.take m)).size ∧ (strOfNums (x.take m)).size ≤ 512
    rw [strOfNums_size, List.length_take]; omega⟩
  unfold dataP at e
  split at e
  · rename_i h5
    cases e
    intro v hv
    simp only [List.nil_append, List.cons_append, List.mem_cons, List.not_mem_nil, or_false] at hv
    rcases hv with rfl | rfl
    · exact one _ (by omega) (by omega)
    · exact evOver_ok
  · cases e
    intro v hv
    simp only [List.nil_append, List.mem_cons, List.not_mem_nil, or_false] at hv
    subst hv
    exact one _ (by decide) (by decide)
theorem stepP_told {s : Pst} {x : List Int} {l : List Evt} {t : Pst} (e : stepP s x = .ok (t, l)) : ∀ v ∈ l, EvOk v := by
  unfold stepP at e
  split at e
  · rename_i hq
    rw [Bool.and_eq_true, decide_eq_true_eq] at hq
    have nam : nameP s x [] = .ok (t, l) → ∀ v ∈ l, EvOk v := fun e => by
      unfold nameP at e
      split at e
      · split at e
        · cases e; intro v hv; cases hv
        · cases e; intro v hv; cases hv
      · cases e
    split at e
    · exact headP_told e
    · split at e
      · exact nam e
      · split at e
        · exact nam e
        · split at e
          · rename_i h3
            exact dataP_told hq.2 (inB3_iff.1 ((may_3i h3).1 hq.1).2.2.2.2.2.1).1 e
          · split at e
            · unfold zeroP at e
              split at e
              · cases e; intro v hv; cases hv
              · cases e
            · cases e
  · cases e
theorem stepR_told (s : Pst) (x : List Int) : ∀ v ∈ (stepR s x).2.1, EvOk v := by
  unfold stepR
  cases h : stepP s x with
  | error k => intro v hv; cases hv
  | ok r => obtain ⟨t, l⟩ := r; exact stepP_told h
/-- A run: what is told is sound; how many blocks it took. -/
theorem runP_told : ∀ (L : List (List Int)) (s : Pst) (all : List Evt) (i : Nat), StOk s → (∀ v ∈ all, EvOk v) → all.length ≤ 2 * i →
    (∀ v ∈ (runP s L all i).2.1, EvOk v) ∧ (runP s L all i).2.1.length ≤ 2 * (runP s L all i).2.2.1 ∧ i ≤ (runP s L all i).2.2.1 ∧ (runP s L all i).2.2.1 ≤ i + L.length ∧ ((runP s L all i).2.2.2 = 0 ∨ (runP s L all i).2.2.1 < i + L.length)
  | [], s, all, i, _, ha, hl => ⟨ha, hl, Nat.le_refl _, Nat.le_refl _, .inl rfl⟩
  | x :: L, s, all, i, hs, ha, hl => by
    have hok := stepR_ok (x := x) hs
    have ht := stepR_told s x
    have hall : ∀ v ∈ all ++ (stepR s x).2.1, EvOk v := fun v hv => (List.mem_append.1 hv).elim (ha v) (ht v)
    have hlen : (all ++ (stepR s x).2.1).length ≤ 2 * (i + 1) := by rw [List.length_append]; have := hok.2; omega
    unfold runP
    rw [List.length_cons]
    split
    · split
      · exact ⟨hall, hlen, by show i ≤ i + 1; omega, by show i + 1 ≤ i + (L.length + 1); omega, .inl rfl⟩
      · obtain ⟨a1, a2, a3, a4, a5⟩ := runP_told L (stepR s x).1 (all ++ (stepR s x).2.1) (i + 1) hok.1 hall hlen
        exact ⟨a1, a2, by omega, by omega, a5.elim .inl (fun h => .inr (by omega))⟩
    · exact ⟨ha, hl, Nat.le_refl _, by show i ≤ i + (L.length + 1); omega, .inr (by show i < i + (L.length + 1); omega)⟩

end Go.Proofs.Ytoahjigjlgcjkaa.X
