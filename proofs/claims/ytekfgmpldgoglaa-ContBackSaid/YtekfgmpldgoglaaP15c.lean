/- What the functions of package cont tell, plainly. -/
import Derived.Test.YtekfgmpldgoglaaXK
import Derived.Test.YtekfgmpldgoglaaXGtree
import Derived.Test.YtekfgmpldgoglaaXGhead
import Derived.Test.YtekfgmpldgoglaaXGnum
import Derived.Test.YtekfgmpldgoglaaXGlong
import Derived.Test.YtekfgmpldgoglaaXGlong
import Derived.Test.YtekfgmpldgoglaaXGblock
import Derived.Test.YtekfgmpldgoglaaXGblock
import Derived.Test.YtekfgmpldgoglaaXGblock
import Derived.Test.YtekfgmpldgoglaaXGtrim
import Derived.Test.YtekfgmpldgoglaaXGcont
import Derived.Test.YtekfgmpldgoglaaXGcont
import Derived.Test.YtekfgmpldgoglaaXGcont
import Derived.Test.YtekfgmpldgoglaaYAll
import Derived.Test.YtekfgmpldgoglaaYAll
import Derived.Test.YtekfgmpldgoglaaYAll
import Derived.Test.YtekfgmpldgoglaaYAll
import Derived.Test.YtekfgmpldgoglaaPGA
import Derived.Test.YtekfgmpldgoglaaPGA
import Derived.Test.YtekfgmpldgoglaaPGA
import Derived.Test.YtekfgmpldgoglaaPGA
import Derived.Test.YtekfgmpldgoglaaPGA
import Derived.Test.YtekfgmpldgoglaaPGA
import Derived.Test.YtekfgmpldgoglaaPGA
import Derived.Test.YtekfgmpldgoglaaPGA
import Derived.Test.YtekfgmpldgoglaaPGA
import Derived.Test.YtekfgmpldgoglaaPGA
import Derived.Test.YtekfgmpldgoglaaPGA
import Derived.Test.YtekfgmpldgoglaaPGA
import Derived.Test.YtekfgmpldgoglaaPGA
import Derived.Test.YtekfgmpldgoglaaPGA
import Derived.Test.YtekfgmpldgoglaaPGE
import Derived.Test.YtekfgmpldgoglaaPGE
import Derived.Test.YtekfgmpldgoglaaPGE
import Derived.Test.YtekfgmpldgoglaaPGE
import Derived.Test.YtekfgmpldgoglaaP04f
import Derived.Test.YtekfgmpldgoglaaP04g
import Derived.Test.YtekfgmpldgoglaaPGE
import Derived.Test.YtekfgmpldgoglaaPGE
import Derived.Test.YtekfgmpldgoglaaPGE
import Derived.Test.YtekfgmpldgoglaaP15a
import Derived.Test.YtekfgmpldgoglaaP15b
import Derived.Lib.IndexAny
namespace Go.Proofs.Ytekfgmpldgoglaa.X
open Go.RowKit Go.Proofs.YtekfgmpldgoglaaW.PrintWords Go.Proofs.YtekfgmpldgoglaaW.PrintLast Go.Proofs.YtekfgmpldgoglaaW.PrintMore
attribute [local go_sem] max2_int min2_int max_two min_two
set_option linter.unusedVariables false
set_option linter.unusedSimpArgs false

open Go.Proofs.YtekfgmpldgoglaaY
def fileB (n : Nd) : Bool := decide (n.f2 = 48) && oneB n
theorem fileB_iff {n : Nd} : fileB n = true ↔ n.f2 = 48 ∧ oneB n = true := by simp [fileB]
theorem file_f {n : Nd} (h0 : n.f0.size ≤ 10000) (h1 : n.f1.size ≤ 10000) : cont_file.f n.f0 n.f1 n.f2 n.f3 n.f4 n.f5 n.f6 n.f7 = some (fileB n) := by
  unfold cont_file.f fileB
  rw [one_b n (by omega) (by omega)]
  by_cases c : n.f2 = 48
  · rw [if_pos c, decide_eq_true c, Bool.true_and]; rfl
  · rw [if_neg c, decide_eq_false c]; rfl
def contMayB (n : Nd) (off : Int) : Bool := fileB n && (decide (0 ≤ off) && (decide (off < (n.f7.size : Int)) && decide (off % 512 = 0)))
theorem contMayB_iff {n : Nd} {off : Int} : contMayB n off = true ↔ (n.f2 = 48 ∧ oneB n = true) ∧ 0 ≤ off ∧ off < (n.f7.size : Int) ∧ off % 512 = 0 := by
  unfold contMayB
  rw [Bool.and_eq_true, fileB_iff]
  simp only [Bool.and_eq_true, decide_eq_true_eq]
theorem may15_f {n : Nd} (h0 : n.f0.size ≤ 10000) (h1 : n.f1.size ≤ 10000) (off : Int) : cont_May.f n.f0 n.f1 n.f2 n.f3 n.f4 n.f5 n.f6 n.f7 off = some (contMayB n off) := by
  unfold cont_May.f contMayB
  rw [file_f h0 h1]
  simp only [Option.bind_some]
  cases fileB n with
  | false => rfl
  | true =>
    rw [if_pos rfl, Bool.true_and]
    by_cases c1 : 0 ≤ off
    · rw [if_pos (show off ≥ 0 from c1), decide_eq_true c1, Bool.true_and]
      by_cases c2 : off < (n.f7.size : Int)
      · rw [if_pos c2, decide_eq_true c2, Bool.true_and, Int.tmod_eq_emod_of_nonneg c1]
        congr 1
      · rw [if_neg c2, decide_eq_false c2, Bool.false_and]
    · rw [if_neg (show ¬ off ≥ 0 from c1), decide_eq_false c1, Bool.false_and]
def contManyB (n : Nd) : Int := if fileB n = true then (if 100 < n.f0.size then 3 else 1) else 0
theorem many15_f {n : Nd} (h0 : n.f0.size ≤ 10000) (h1 : n.f1.size ≤ 10000) : cont_Many.f n.f0 n.f1 n.f2 n.f3 n.f4 n.f5 n.f6 n.f7 = some (contManyB n) := by
  unfold cont_Many.f contManyB
  rw [file_f h0 h1]
  simp only [Option.bind_some]
  cases fileB n with
  | false => rfl
  | true =>
    rw [if_pos rfl, if_pos rfl]
    by_cases c : 100 < n.f0.size
    · rw [if_pos c, if_pos (by omega)]
    · rw [if_neg c, if_neg (by omega)]
/-- What Put tells. -/
def contPutB (n : Nd) (off : Int) : List (List Int) := if contMayB n off = true then contB n off (n.f7.size : Int) else []
theorem contB_bytes {n : Nd} (h : OneFacts n) (off whole : Int) : ∀ x ∈ contB n off whole, byteOk x := by
  have hz := mayL_pos h.path
  intro x hx
  unfold contB at hx
  rcases List.mem_append.1 hx with hx | hx
  · by_cases c : 100 < n.f0.size
    · rw [if_pos c] at hx; exact longL_bytes (.inr rfl) (by omega) x hx
    · rw [if_neg c] at hx; cases hx
  · rw [List.mem_singleton] at hx
    rw [hx]
    exact byteOk_hdBlk (h := contHd n off whole) ⟨by show (0 : Int) ≤ 77; decide, by show (77 : Int) ≤ 255; decide⟩
theorem contB_512 {n : Nd} (h : OneFacts n) {off whole : Int} (h0 : 0 ≤ off) (h1 : off ≤ whole) (h2 : whole ≤ 4000) : ∀ x ∈ contB n off whole, x.length = 512 := by
  have hz := mayL_pos h.path
  intro x hx
  unfold contB at hx
  rcases List.mem_append.1 hx with hx | hx
  · by_cases c : 100 < n.f0.size
    · rw [if_pos c] at hx; exact longL_512 (.inr rfl) (by omega) x hx
    · rw [if_neg c] at hx; cases hx
  · rw [List.mem_singleton] at hx
    rw [hx]
    exact hdBlk_length (contHd_ok h h0 h1 h2)
/-- The last of the headers. -/
theorem contB_last {n : Nd} (h : OneFacts n) (off whole : Int) : rdR (contB n off whole) ((contB n off whole).length - 1) = hdBlk (contHd n off whole) := by
  unfold contB rdR
  rw [List.length_append, List.length_singleton, Nat.add_sub_cancel, List.getD_eq_getElem?_getD, List.getElem?_append_right (Nat.le_refl _), Nat.sub_self]
  rfl
/-- Two texts of blocks are the same just if who goes on is. -/
theorem contPut_same {n m : Nd} {a c : Int} (hn : contMayB n a = true) (hm : contMayB m c = true) :
    sameF (contPutB n a) (contPutB m c) = decide ((⟨n.f0, n.f1, n.f2, n.f3, n.f4, n.f5, n.f6, ⟨#[]⟩⟩ : Nd) = ⟨m.f0, m.f1, m.f2, m.f3, m.f4, m.f5, m.f6, ⟨#[]⟩⟩ ∧ a = c ∧ n.f7.size = m.f7.size) := by
  obtain ⟨⟨kn, on⟩, a0, a1, _⟩ := contMayB_iff.1 hn
  obtain ⟨⟨km, om⟩, c0, c1, _⟩ := contMayB_iff.1 hm
  have fn := oneB_facts on
  have fm := oneB_facts om
  unfold contPutB
  rw [if_pos hn, if_pos hm, sameF_bytes (contB_bytes fn _ _) (contB_bytes fm _ _)]
  refine decide_eq_decide.2 ?_
  rw [contB_inj fn fm kn km a0 (by omega) (by have := fn.data; omega) c0 (by omega) (by have := fm.data; omega)]
  constructor
  · rintro ⟨h1, h2, h3⟩; exact ⟨h1, h2, by omega⟩
  · rintro ⟨h1, h2, h3⟩; exact ⟨h1, h2, by omega⟩

end Go.Proofs.Ytekfgmpldgoglaa.X
