/- Nodes out of what is told, plainly. -/
import Derived.Test.YtpedagpcblnnhaaXK
import Derived.Test.YtpedagpcblnnhaaXGpj
import Derived.Test.YtpedagpcblnnhaaYAll
import Derived.Test.YtpedagpcblnnhaaYAll
import Derived.Test.YtpedagpcblnnhaaYAll
import Derived.Test.YtpedagpcblnnhaaYAll
import Derived.Test.YtpedagpcblnnhaaPGA
import Derived.Test.YtpedagpcblnnhaaPGA
import Derived.Test.YtpedagpcblnnhaaPGA
import Derived.Test.YtpedagpcblnnhaaPGA
import Derived.Test.YtpedagpcblnnhaaPGA
import Derived.Test.YtpedagpcblnnhaaPGE
import Derived.Test.YtpedagpcblnnhaaPGE
import Derived.Test.YtpedagpcblnnhaaP04g
import Derived.Test.YtpedagpcblnnhaaP09a
namespace Go.Proofs.Ytpedagpcblnnhaa.X
open Go.RowKit Go.Proofs.YtpedagpcblnnhaaW.PrintWords Go.Proofs.YtpedagpcblnnhaaW.PrintLast Go.Proofs.YtpedagpcblnnhaaW.PrintMore
attribute [local go_sem] max2_int min2_int max_two min_two
set_option linter.unusedVariables false
set_option linter.unusedSimpArgs false

open Go.Proofs.YtpedagpcblnnhaaY
theorem nil_or_snoc {α : Type} (l : List α) : l = [] ∨ ∃ p n, l = p ++ [n] := by
  rcases List.eq_nil_or_concat l with h | ⟨p, n, h⟩
  · exact .inl h
  · exact .inr ⟨p, n, by rw [h, List.concat_eq_append]⟩
def addD (n : Nd) (d : ByteArray) : Nd := ⟨n.f0, n.f1, n.f2, n.f3, n.f4, n.f5, n.f6, n.f7 ++ d⟩
/-- Closed nodes, and the one that is open: what one event makes of them. -/
def takeE (q : List Nd) (c : Option Nd) (v : Evt) : Option (List Nd × Option Nd) :=
  if v.f0 = 0 then (match c with | none => some (q, some v.f1) | some _ => none)
  else if v.f0 = 1 then (match c with | some n => some (q, some (addD n v.f2)) | none => none)
  else if v.f0 = 2 then (match c with | some n => some (q ++ [n], none) | none => none)
  else none
def gathS : List Evt → List Nd → Option Nd → (List Nd × Option Nd) × Bool
  | [], q, c => ((q, c), true)
  | v :: l, q, c => match takeE q c v with
    | some r => gathS l r.1 r.2
    | none => ((q, c), false)
def outOf (r : List Nd × Option Nd) : List Nd := r.1 ++ r.2.toList
def gatherF (l : List Evt) : List Nd × Bool := (outOf (gathS l [] none).1, (gathS l [] none).2)
theorem gathS_append (b : List Evt) : ∀ (a : List Evt) (q : List Nd) (c : Option Nd), gathS (a ++ b) q c = if (gathS a q c).2 = true then gathS b (gathS a q c).1.1 (gathS a q c).1.2 else gathS a q c
  | [], q, c => by
    show gathS b q c = if (true : Bool) = true then gathS b q c else _
    rw [if_pos rfl]
  | v :: a, q, c => by
    rw [List.cons_append]
    show (match takeE q c v with | some r => gathS (a ++ b) r.1 r.2 | none => ((q, c), false)) = if (match takeE q c v with | some r => gathS a r.1 r.2 | none => ((q, c), false)).2 = true then gathS b (match takeE q c v with | some r => gathS a r.1 r.2 | none => ((q, c), false)).1.1 (match takeE q c v with | some r => gathS a r.1 r.2 | none => ((q, c), false)).1.2 else (match takeE q c v with | some r => gathS a r.1 r.2 | none => ((q, c), false))
    cases takeE q c v with
    | none => rfl
    | some r => exact gathS_append b a r.1 r.2
/-- What is closed stays. -/
theorem gathS_front (q0 : List Nd) : ∀ (l : List Evt) (q : List Nd) (c : Option Nd), gathS l (q0 ++ q) c = ((q0 ++ (gathS l q c).1.1, (gathS l q c).1.2), (gathS l q c).2)
  | [], q, c => rfl
  | v :: l, q, c => by
    have h : takeE (q0 ++ q) c v = (takeE q c v).map fun r => (q0 ++ r.1, r.2) := by
      unfold takeE
      split
      · cases c <;> rfl
      · split
        · cases c <;> rfl
        · split
          · cases c with
            | none => rfl
            | some n => simp
          · rfl
    show (match takeE (q0 ++ q) c v with | some r => gathS l r.1 r.2 | none => ((q0 ++ q, c), false)) = _
    rw [h]
    show _ = ((q0 ++ (match takeE q c v with | some r => gathS l r.1 r.2 | none => ((q, c), false)).1.1, (match takeE q c v with | some r => gathS l r.1 r.2 | none => ((q, c), false)).1.2), (match takeE q c v with | some r => gathS l r.1 r.2 | none => ((q, c), false)).2)
    cases takeE q c v with
    | none => rfl
    | some r => exact gathS_front q0 l r.1 r.2
theorem gathS_last {l : List Evt} {q : List Nd} {c : Option Nd} (h : (gathS l q c).2 = true) (hc : l = [] → c = none) (hl : ∀ v, l.getLast? = some v → v.f0 = 2) : (gathS l q c).1.2 = none := by
  rcases nil_or_snoc l with rfl | ⟨a, v, rfl⟩
  · exact hc rfl
  · have h2 := hl v (by simp)
    rw [gathS_append] at h ⊢
    by_cases ha : (gathS a q c).2 = true
    · rw [if_pos ha] at h ⊢
      generalize (gathS a q c).1 = r at *
      have e : takeE r.1 r.2 v = (match r.2 with | some n => some (r.1 ++ [n], none) | none => none) := by
        unfold takeE
        rw [if_neg (by omega), if_neg (by omega), if_pos h2]
      show (match takeE r.1 r.2 v with | some r => gathS [] r.1 r.2 | none => (r, false)).1.2 = none
      have h' : (match takeE r.1 r.2 v with | some r => gathS [] r.1 r.2 | none => (r, false)).2 = true := h
      rw [e] at h' ⊢
      cases hr : r.2 with
      | none => rw [hr] at h'; cases h'
      | some n => rfl
    · rw [if_neg ha] at h; exact absurd h ha
/-- Two lists of events, the first one closed. -/
theorem gatherF_append {a b : List Evt} (hl : ∀ v, a.getLast? = some v → v.f0 = 2) : gatherF (a ++ b) = if (gatherF a).2 = true then ((gatherF a).1 ++ (gatherF b).1, (gatherF b).2) else gatherF a := by
  unfold gatherF
  rw [gathS_append]
  by_cases h : (gathS a [] none).2 = true
  · rw [if_pos h, if_pos h]
    have hc := gathS_last h (fun _ => rfl) hl
    rw [hc]
    have hf := gathS_front (gathS a [] none).1.1 b [] none
    rw [List.append_nil] at hf
    rw [hf]
    unfold outOf
    rw [hc]
    simp
  · rw [if_neg h, if_neg h]
/-- With more events the nodes are no fewer; the last one perhaps has more bytes. -/
inductive More : List Nd → List Nd → Prop where
  | none (t r : List Nd) : More t (t ++ r)
  | last (t : List Nd) (n : Nd) (d : ByteArray) (r : List Nd) : More (t ++ [n]) (t ++ addD n d :: r)
theorem addD_nil (n : Nd) : addD n ⟨#[]⟩ = n := by
  obtain ⟨a0, a1, a2, a3, a4, a5, a6, a7⟩ := n
  show (⟨a0, a1, a2, a3, a4, a5, a6, a7 ++ ByteArray.empty⟩ : Nd) = _
  rw [ByteArray.append_empty]
theorem addD_addD (n : Nd) (a b : ByteArray) : addD (addD n a) b = addD n (a ++ b) := by
  show (⟨n.f0, n.f1, n.f2, n.f3, n.f4, n.f5, n.f6, (n.f7 ++ a) ++ b⟩ : Nd) = ⟨n.f0, n.f1, n.f2, n.f3, n.f4, n.f5, n.f6, n.f7 ++ (a ++ b)⟩
  rw [ByteArray.append_assoc]
theorem gathS_some : ∀ (l : List Evt) (q : List Nd) (n : Nd), ∃ d r, outOf (gathS l q (some n)).1 = q ++ addD n d :: r
  | [], q, n => ⟨⟨#[]⟩, [], by rw [addD_nil]; rfl⟩
  | v :: l, q, n => by
    have same : ∃ d r, outOf ((q, some n) : List Nd × Option Nd) = q ++ addD n d :: r := ⟨⟨#[]⟩, [], by rw [addD_nil]; rfl⟩
    show ∃ d r, outOf (match takeE q (some n) v with | some r => gathS l r.1 r.2 | none => ((q, some n), false)).1 = q ++ addD n d :: r
    by_cases h0 : v.f0 = 0
    · rw [show takeE q (some n) v = none by unfold takeE; rw [if_pos h0]]
      exact same
    · by_cases h1 : v.f0 = 1
      · rw [show takeE q (some n) v = some (q, some (addD n v.f2)) by unfold takeE; rw [if_neg h0, if_pos h1]]
        obtain ⟨d, r, h⟩ := gathS_some l q (addD n v.f2)
        exact ⟨v.f2 ++ d, r, by rw [← addD_addD]; exact h⟩
      · by_cases h2 : v.f0 = 2
        · rw [show takeE q (some n) v = some (q ++ [n], none) by unfold takeE; rw [if_neg h0, if_neg h1, if_pos h2]]
          have hf := gathS_front (q ++ [n]) l [] none
          rw [List.append_nil] at hf
          refine ⟨⟨#[]⟩, outOf (gathS l [] none).1, ?_⟩
          show outOf (gathS l (q ++ [n]) none).1 = _
          rw [hf, addD_nil]
          unfold outOf
          simp
        · rw [show takeE q (some n) v = none by unfold takeE; rw [if_neg h0, if_neg h1, if_neg h2]]
          exact same
theorem gathS_more (b : List Evt) (q : List Nd) (c : Option Nd) : More (outOf (q, c)) (outOf (gathS b q c).1) := by
  cases c with
  | none =>
    have hf := gathS_front q b [] none
    rw [List.append_nil] at hf
    rw [hf]
    have e : outOf ((q ++ (gathS b [] none).1.1, (gathS b [] none).1.2) : List Nd × Option Nd) = q ++ outOf (gathS b [] none).1 := by unfold outOf; rw [List.append_assoc]
    rw [e, show outOf ((q, none) : List Nd × Option Nd) = q by unfold outOf; simp]
    exact .none q _
  | some n =>
    obtain ⟨d, r, h⟩ := gathS_some b q n
    rw [h]
    exact .last q n d r
/-- With more events. -/
theorem gatherF_more (a b : List Evt) : More (gatherF a).1 (gatherF (a ++ b)).1 := by
  unfold gatherF
  rw [gathS_append]
  split
  · exact gathS_more b _ _
  · have h := More.none (outOf (gathS a [] none).1) []
    rw [List.append_nil] at h
    exact h

end Go.Proofs.Ytpedagpcblnnhaa.X
