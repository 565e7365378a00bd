/- Rows of rows, as rows of headers. -/
import Derived.Test.YtoahjigjlgcjkaaXK
import Derived.Test.YtoahjigjlgcjkaaXreelkeeperlaw05Few
import Derived.Test.YtoahjigjlgcjkaaYAll
import Derived.Test.YtoahjigjlgcjkaaYAll
namespace Go.Proofs.Ytoahjigjlgcjkaa.X
open Go.RowKit Go.Proofs.YtoahjigjlgcjkaaW.PrintWords Go.Proofs.YtoahjigjlgcjkaaW.PrintLast Go.Proofs.YtoahjigjlgcjkaaW.PrintMore
attribute [local go_sem] max2_int min2_int max_two min_two
set_option linter.unusedVariables false
set_option linter.unusedSimpArgs false

open Go.Proofs.YtoahjigjlgcjkaaY
abbrev kRw : Kd (List Int) := Kd.slice 5 (Kd.int .u8)
/-- A row's own header. -/
abbrev Tr := Option Addr × Nat × Nat
def encT (t : Tr) : Value := .slice t.1 t.2.1 t.2.2
theorem encT_one : ∀ t : Tr, (encT t).oneCell' = true := fun _ => rfl
abbrev kTr : Kd Tr := Kd.scalar encT encT_one
def InT (w : World) (t : Tr) (x : List Int) : Prop := t.2.1 = x.length ∧ x.length ≤ t.2.2 ∧ (Kd.int .u8).C w t.1 x.length x
theorem InT.below {w w' : World} {t : Tr} {x : List Int} (h : InT w t x) (b : Below w.heap.size w w') : InT w' t x := ⟨h.1, h.2.1, Kd.C_below h.2.2 b⟩
inductive AllT (w : World) : List Tr → List (List Int) → Prop where
  | nil : AllT w [] []
  | cons {t : Tr} {x : List Int} {ts : List Tr} {xs : List (List Int)} : InT w t x → AllT w ts xs → AllT w (t :: ts) (x :: xs)
theorem AllT.length_eq {w : World} : ∀ {ts : List Tr} {xs : List (List Int)}, AllT w ts xs → ts.length = xs.length
  | _, _, .nil => rfl
  | _, _, .cons _ t => by rw [List.length_cons, List.length_cons, AllT.length_eq t]
theorem AllT.at_ {w : World} : ∀ {ts : List Tr} {xs : List (List Int)}, AllT w ts xs → ∀ (j : Nat) (t : Tr) (x : List Int), ts[j]? = some t → xs[j]? = some x → InT w t x
  | _, _, .nil, j, t, x, h, _ => by simp at h
  | _, _, .cons i _, 0, t, x, h, k => by
    simp only [List.getElem?_cons_zero, Option.some.injEq] at h k
    subst h k
    exact i
  | _, _, .cons _ r, j + 1, t, x, h, k => by
    simp only [List.getElem?_cons_succ] at h k
    exact AllT.at_ r j t x h k
/-- Rows read: their headers, and each one's bytes. -/
theorem rows_split {w : World} {A : Option Addr} {n : Nat} {xs : List (List Int)} (h : Kd.C kRw w A n xs) : ∃ ts : List Tr, Kd.C kTr w A n ts ∧ AllT w ts xs := by
  obtain ⟨hl, hm, hr⟩ := h
  rcases Nat.eq_zero_or_pos n with e | hp
  · subst e
    obtain rfl : xs = [] := List.eq_nil_of_length_eq_zero hl
    exact ⟨[], ⟨rfl, hm, fun h => absurd h (by simp)⟩, .nil⟩
  · obtain ⟨ad, rfl, hc⟩ := hr hp
    have key : ∀ (ys : List (List Int)) (i : Nat), (∀ j x, ys[j]? = some x → xs[i + j]? = some x) → ∃ ts : List Tr, AllT w ts ys ∧ ∀ j t, ts[j]? = some t → w.cell? (ad.add (i + j)) = some (encT t) := by
      intro ys
      induction ys with
      | nil => exact fun i _ => ⟨[], .nil, fun j t ht => by simp at ht⟩
      | cons x ys ih =>
        intro i hx
        obtain ⟨ts, h1, h2⟩ := ih (i + 1) (fun j y hy => by have := hx (j + 1) y (by simpa using hy); rwa [show i + 1 + j = i + (j + 1) by omega])
        obtain ⟨c, hcl, ⟨A1, c1, rfl, l1, g1⟩, hcell⟩ := hc i x (by have := hx 0 x rfl; rwa [Nat.add_zero] at this)
        refine ⟨(A1, x.length, c1) :: ts, .cons ⟨rfl, l1, g1⟩ h1, fun j t ht => ?_⟩
        cases j with
        | zero =>
          obtain rfl : (A1, x.length, c1) = t := by simpa using ht
          have h_ : w.cell? (ad.add (i * 1 + 0)) = some (.slice A1 x.length c1) := hcell 0 _ rfl
          rw [show i * 1 + 0 = i + 0 by omega] at h_
          exact h_
        | succ j =>
          have := h2 j t (by simpa using ht)
          rwa [show i + 1 + j = i + (j + 1) by omega] at this
    obtain ⟨ts, h1, h2⟩ := key xs 0 (fun j x hx => by rwa [Nat.zero_add])
    have hlen : ts.length = xs.length := h1.length_eq
    refine ⟨ts, ⟨by omega, hm, fun _ => ⟨ad, rfl, fun j t ht => ⟨[encT t], rfl, rfl, fun i u hu => ?_⟩⟩⟩, h1⟩
    cases i with
    | zero =>
      obtain rfl : encT t = u := by simpa using hu
      have h_ := h2 j t ht
      show w.cell? (ad.add (j * 1 + 0)) = _
      rwa [show j * 1 + 0 = 0 + j by omega]
    | succ i => simp at hu
theorem rows_join {w : World} {A : Option Addr} {n : Nat} {ts : List Tr} {xs : List (List Int)} (h : Kd.C kTr w A n ts) (hf : AllT w ts xs) : Kd.C kRw w A n xs := by
  obtain ⟨hl, hm, hr⟩ := h
  have hlen : ts.length = xs.length := hf.length_eq
  refine ⟨by omega, hm, fun hp => ?_⟩
  obtain ⟨ad, e, hc⟩ := hr hp
  refine ⟨ad, e, fun j x hx => ?_⟩
  have hj : j < xs.length := (List.getElem?_eq_some_iff.1 hx).1
  obtain ⟨c, hcl, hK, hcell⟩ := hc j _ (List.getElem?_eq_getElem (show j < ts.length by omega))
  have hx2 : xs[j] = x := (List.getElem?_eq_some_iff.1 hx).2
  have hin := hf.at_ j _ x (List.getElem?_eq_getElem (show j < ts.length by omega)) hx
  obtain ⟨i1, i2, i3⟩ := hin
  have hKc : c = [encT ts[j]] := hK
  refine ⟨c, hcl, ⟨ts[j].1, ts[j].2.2, ?_, i2, i3⟩, hcell⟩
  rw [hKc]
  unfold encT
  rw [i1]
theorem forall_below {w w' : World} (b : Below w.heap.size w w') : ∀ {ts : List Tr} {xs : List (List Int)}, AllT w ts xs → AllT w' ts xs
  | _, _, .nil => .nil
  | _, _, .cons h t => .cons (h.below b) (forall_below b t)
theorem forall_app {w : World} : ∀ {a b : List Tr} {x y : List (List Int)}, AllT w a x → AllT w b y → AllT w (a ++ b) (x ++ y)
  | _, _, _, _, .nil, k => k
  | _, _, _, _, .cons h t, k => .cons h (forall_app t k)

end Go.Proofs.Ytoahjigjlgcjkaa.X
