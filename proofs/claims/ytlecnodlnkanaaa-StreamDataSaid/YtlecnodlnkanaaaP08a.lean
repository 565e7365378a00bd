/- A tree's stream, plainly. -/
import Derived.Test.YtlecnodlnkanaaaXK
import Derived.Test.YtlecnodlnkanaaaXGtree
import Derived.Test.YtlecnodlnkanaaaXGtree
import Derived.Test.YtlecnodlnkanaaaXGhead
import Derived.Test.YtlecnodlnkanaaaXGnum
import Derived.Test.YtlecnodlnkanaaaXGlong
import Derived.Test.YtlecnodlnkanaaaXGlong
import Derived.Test.YtlecnodlnkanaaaXGblock
import Derived.Test.YtlecnodlnkanaaaYAll
import Derived.Test.YtlecnodlnkanaaaYAll
import Derived.Test.YtlecnodlnkanaaaYAll
import Derived.Test.YtlecnodlnkanaaaYAll
import Derived.Test.YtlecnodlnkanaaaPGA
import Derived.Test.YtlecnodlnkanaaaPGA
import Derived.Test.YtlecnodlnkanaaaP02p
import Derived.Test.YtlecnodlnkanaaaPGA
import Derived.Test.YtlecnodlnkanaaaPGA
import Derived.Test.YtlecnodlnkanaaaPGA
import Derived.Test.YtlecnodlnkanaaaPGA
import Derived.Test.YtlecnodlnkanaaaPGA
import Derived.Test.YtlecnodlnkanaaaPGA
import Derived.Test.YtlecnodlnkanaaaPGA
import Derived.Test.YtlecnodlnkanaaaPGA
import Derived.Test.YtlecnodlnkanaaaPGA
import Derived.Test.YtlecnodlnkanaaaPGA
import Derived.Test.YtlecnodlnkanaaaPGA
import Derived.Test.YtlecnodlnkanaaaP06a
import Derived.Test.YtlecnodlnkanaaaPGE
import Derived.Test.YtlecnodlnkanaaaPGE
import Derived.Test.YtlecnodlnkanaaaPGE
import Derived.Test.YtlecnodlnkanaaaPGE
import Derived.Test.YtlecnodlnkanaaaPGE
import Derived.Lib.IndexAny
namespace Go.Proofs.Ytlecnodlnkanaaa.X
open Go.RowKit Go.Proofs.YtlecnodlnkanaaaW.PrintWords Go.Proofs.YtlecnodlnkanaaaW.PrintLast Go.Proofs.YtlecnodlnkanaaaW.PrintMore
attribute [local go_sem] max2_int min2_int max_two min_two
set_option linter.unusedVariables false
set_option linter.unusedSimpArgs false

open Go.Proofs.YtlecnodlnkanaaaY
theorem one_is {n : Nd} (h : okN n = true) : one n = oneB n := by
  have h1 := one_f h
  obtain ⟨h0, h1', _⟩ := okN_iff.1 h
  rw [one_b n (by omega) (by omega)] at h1
  exact (Option.some.inj h1).symm
theorem mayT_one : ∀ (l pre : List Nd) (last : ByteArray), mayT pre last l = true → ∀ n ∈ l, one n = true
  | [], _, _, _, n, hn => by cases hn
  | m :: t, pre, last, h, n, hn => by
    unfold mayT at h
    rw [Bool.and_eq_true] at h
    rcases List.mem_cons.1 hn with rfl | hn
    · have := h.1
      unfold step at this
      rw [Bool.and_eq_true] at this
      exact this.1
    · exact mayT_one t _ _ h.2 n hn
theorem mayF_facts {l : List Nd} (hok : ∀ n ∈ l, okN n = true) (h : mayF l = true) : l.length ≤ 20 ∧ ∀ n ∈ l, oneB n = true := by
  unfold mayF at h
  rw [Bool.and_eq_true, decide_eq_true_eq] at h
  exact ⟨h.1, fun n hn => by rw [← one_is (hok n hn)]; exact mayT_one l _ _ h.2 n hn⟩
/-- The blocks of nodes, one behind the other. -/
def bodyB : List Nd → List (List Int)
  | [] => []
  | n :: t => entryB n ++ bodyB t
theorem bodyB_append : ∀ (a b : List Nd), bodyB (a ++ b) = bodyB a ++ bodyB b
  | [], b => rfl
  | n :: a, b => by rw [List.cons_append, bodyB, bodyB, bodyB_append a b, List.append_assoc]
theorem bodyB_snoc (a : List Nd) (n : Nd) : bodyB (a ++ [n]) = bodyB a ++ entryB n := by rw [bodyB_append, bodyB, bodyB, List.append_nil]
def zeroB : List (List Int) := [List.replicate 512 0, List.replicate 512 0]
noncomputable def allS (t : List Nd) : List (List Int) × Bool := if mayF t = true then (bodyB t ++ zeroB, true) else ([], false)
theorem entryB_few {n : Nd} (h : OneFacts n) : (entryB n).length ≤ 13 := by
  have hd := h.data
  rw [entryB_length h, aheadB_count h]
  unfold manyB
  split <;> split <;> omega
theorem bodyB_few : ∀ (t : List Nd), (∀ n ∈ t, OneFacts n) → (bodyB t).length ≤ 13 * t.length
  | [], _ => by simp [bodyB]
  | n :: t, h => by
    have h1 := entryB_few (h n (.head _))
    have h2 := bodyB_few t (fun m hm => h m (.tail _ hm))
    rw [bodyB, List.length_append, List.length_cons]
    omega
theorem bodyB_bytes : ∀ (t : List Nd), (∀ n ∈ t, OneFacts n) → ∀ x ∈ bodyB t, byteOk x
  | [], _, x, hx => by cases hx
  | n :: t, h, x, hx => by
    rw [bodyB] at hx
    rcases List.mem_append.1 hx with hx | hx
    · exact entryB_bytes (h n (.head _)) x hx
    · exact bodyB_bytes t (fun m hm => h m (.tail _ hm)) x hx
theorem zeroB_bytes : ∀ x ∈ zeroB, byteOk x := by
  intro x hx
  unfold zeroB at hx
  simp only [List.mem_cons, List.not_mem_nil, or_false] at hx
  rcases hx with rfl | rfl <;> exact byteOk_zeros _
theorem typ_cons (x : List Int) (r : List (List Int)) : typ (x :: r) = x.getD 156 0 := rfl
theorem typ_app {a : List (List Int)} (h : a ≠ []) (b : List (List Int)) : typ (a ++ b) = typ a := by
  cases a with
  | nil => exact absurd rfl h
  | cons x r => rfl
theorem tailB_ne (n : Nd) : tailB n ≠ [] := by
  unfold tailB
  intro e
  have := congrArg List.length e
  rw [List.length_append, List.length_cons] at this
  simp at this
theorem typ_tailX {n : Nd} (h : OneFacts n) (x : List (List Int)) : typ (tailB n ++ x) = if (needsB n.f0 n.f1).1 = true then 76 else n.f2 := by
  rw [typ_app (tailB_ne n), typ_tail h]
theorem needs2 (n : Nd) : (needsB n.f0 n.f1).2 = decide (100 < n.f1.size) := by
  show decide ((n.f1.size : Int) > 100) = _
  exact decide_eq_decide.2 ⟨fun _ => by omega, fun _ => by omega⟩
theorem entryB_len2 {n : Nd} (h : OneFacts n) : (entryB n).length = (if (needsB n.f0 n.f1).2 = true then 2 else 0) + (if (needsB n.f0 n.f1).1 = true then 2 else 0) + 1 + manyB n.f7.size := by
  rw [entryB_length h, aheadB_count h, needs2]
  by_cases c : 100 < n.f1.size
  · rw [if_pos c, decide_eq_true c, if_pos rfl]
  · rw [if_neg c, decide_eq_false c, if_neg (show ¬ (false = true) by decide)]
theorem hd_len {n m : Nd} (hn : OneFacts n) (hm : OneFacts m) (h : hdBlk (entryHd n) = hdBlk (entryHd m)) : n.f7.size = m.f7.size := by
  have e6 : (n.f7.size : Int) = (m.f7.size : Int) := congrArg (fun x : Hd => x.f6) (hdBlk_inj (entryHd_ok hn) (entryHd_ok hm) h)
  omega
theorem tail_len {n m : Nd} (hn : OneFacts n) (hm : OneFacts m) {x y : List (List Int)} (h : tailB n ++ x = tailB m ++ y) : (needsB n.f0 n.f1).1 = (needsB m.f0 m.f1).1 ∧ n.f7.size = m.f7.size := by
  have zn := mayL_pos hn.path
  have zm := mayL_pos hm.path
  have kn := hn.kinds
  have km := hm.kinds
  have ht := congrArg typ h
  rw [typ_tailX hn, typ_tailX hm] at ht
  have e : (needsB n.f0 n.f1).1 = (needsB m.f0 m.f1).1 := by
    cases cn : (needsB n.f0 n.f1).1 with
    | true =>
      cases cm : (needsB m.f0 m.f1).1 with
      | true => rfl
      | false => rw [cn, cm, if_pos rfl, if_neg (by decide)] at ht; omega
    | false =>
      cases cm : (needsB m.f0 m.f1).1 with
      | true => rw [cn, cm, if_pos rfl, if_neg (by decide)] at ht; omega
      | false => rfl
  refine ⟨e, ?_⟩
  unfold tailB at h
  rw [← e, List.append_assoc, List.append_assoc] at h
  cases cn : (needsB n.f0 n.f1).1 with
  | true =>
    rw [cn, if_pos rfl, if_pos rfl] at h
    obtain ⟨_, h2⟩ := List.append_inj h (by rw [longL_two zn.2, longL_two zm.2])
    exact hd_len hn hm (List.cons.inj h2).1
  | false =>
    rw [cn, if_neg (by decide), if_neg (by decide), List.nil_append, List.nil_append] at h
    exact hd_len hn hm (List.cons.inj h).1
theorem entry_len {n m : Nd} (hn : OneFacts n) (hm : OneFacts m) {x y : List (List Int)} (h : entryB n ++ x = entryB m ++ y) : (entryB n).length = (entryB m).length := by
  have ln := hn.link
  have lm := hm.link
  have kn := hn.kinds
  have km := hm.kinds
  rw [entryB_len2 hn, entryB_len2 hm]
  rw [entryB_tail hn, entryB_tail hm, List.append_assoc, List.append_assoc] at h
  have ht := congrArg typ h
  have tn := typ_tailX hn x
  have tm := typ_tailX hm y
  have un : typ (tailB n ++ x) ≠ 75 := by rw [tn]; split <;> omega
  have um : typ (tailB m ++ y) ≠ 75 := by rw [tm]; split <;> omega
  cases cn : (needsB n.f0 n.f1).2 with
  | true =>
    cases cm : (needsB m.f0 m.f1).2 with
    | true =>
      rw [cn, cm, if_pos rfl, if_pos rfl] at h
      obtain ⟨_, h2⟩ := List.append_inj h (by rw [longL_two ln.2, longL_two lm.2])
      obtain ⟨e1, e2⟩ := tail_len hn hm h2
      rw [e1, e2]
    | false =>
      rw [cn, cm, if_pos rfl, if_neg (by decide), List.nil_append, typ_long (.inl rfl) (by omega)] at ht
      exact absurd ht.symm um
  | false =>
    cases cm : (needsB m.f0 m.f1).2 with
    | true =>
      rw [cn, cm, if_pos rfl, if_neg (by decide), List.nil_append, typ_long (.inl rfl) (by omega)] at ht
      exact absurd ht un
    | false =>
      rw [cn, cm, if_neg (by decide), if_neg (by decide), List.nil_append, List.nil_append] at h
      obtain ⟨e1, e2⟩ := tail_len hn hm h
      rw [e1, e2]
/-- A node's blocks are told from what stands behind them. -/
theorem entryB_pre {n m : Nd} (hn : OneFacts n) (hm : OneFacts m) {x y : List (List Int)} (h : entryB n ++ x = entryB m ++ y) : n = m ∧ x = y := by
  obtain ⟨h1, h2⟩ := List.append_inj h (entry_len hn hm h)
  exact ⟨entryB_inj hn hm h1, h2⟩
theorem typ_entry {n : Nd} (h : OneFacts n) (x : List (List Int)) : typ (entryB n ++ x) ≠ 0 := by
  have hk := h.kinds
  have hl := h.link
  rw [entryB_tail h, List.append_assoc]
  cases c : (needsB n.f0 n.f1).2 with
  | true => rw [if_pos rfl, typ_long (.inl rfl) (by omega)]; decide
  | false =>
    rw [if_neg (by decide), List.nil_append, typ_tailX h]
    split <;> omega
theorem typ_zero : typ zeroB = 0 := rfl
theorem bodyB_inj : ∀ {t u : List Nd}, (∀ n ∈ t, OneFacts n) → (∀ n ∈ u, OneFacts n) → bodyB t ++ zeroB = bodyB u ++ zeroB → t = u
  | [], [], _, _, _ => rfl
  | [], m :: u, _, hu, h => by
    have := congrArg typ h
    rw [bodyB, bodyB, List.nil_append, List.append_assoc, typ_zero] at this
    exact absurd this.symm (typ_entry (hu m (.head _)) _)
  | n :: t, [], ht, _, h => by
    have := congrArg typ h
    rw [bodyB, bodyB, List.nil_append, List.append_assoc, typ_zero] at this
    exact absurd this (typ_entry (ht n (.head _)) _)
  | n :: t, m :: u, ht, hu, h => by
    rw [bodyB, bodyB, List.append_assoc, List.append_assoc] at h
    obtain ⟨rfl, h2⟩ := entryB_pre (ht n (.head _)) (hu m (.head _)) h
    rw [bodyB_inj (fun x hx => ht x (.tail _ hx)) (fun x hx => hu x (.tail _ hx)) h2]
/-- Where nodes begin. -/
def startsL (t : List Nd) : List Int := (List.range (t.length + 1)).map fun k => ((bodyB (t.take k)).length : Int)

end Go.Proofs.Ytlecnodlnkanaaa.X
