/- Blocks compared, plainly: nodes are told by their blocks. -/
import Derived.Test.YtlecnodlnkanaaaXK
import Derived.Test.YtlecnodlnkanaaaXGtree
import Derived.Test.YtlecnodlnkanaaaXGlong
import Derived.Test.YtlecnodlnkanaaaXGlong
import Derived.Test.YtlecnodlnkanaaaXGhead
import Derived.Test.YtlecnodlnkanaaaXGreelkeeperref03
import Derived.Test.YtlecnodlnkanaaaYPath
import Derived.Test.YtlecnodlnkanaaaYBytes
import Derived.Test.YtlecnodlnkanaaaYCopy
import Derived.Test.YtlecnodlnkanaaaYConv
import Derived.Test.YtlecnodlnkanaaaPGA
import Derived.Test.YtlecnodlnkanaaaPGA
import Derived.Test.YtlecnodlnkanaaaPGA
import Derived.Test.YtlecnodlnkanaaaPGA
import Derived.Test.YtlecnodlnkanaaaPGA
import Derived.Test.YtlecnodlnkanaaaPGA
import Derived.Test.YtlecnodlnkanaaaPGA
import Derived.Test.YtlecnodlnkanaaaPGA
import Derived.Test.YtlecnodlnkanaaaPGA
import Derived.Test.YtlecnodlnkanaaaPGA
import Derived.Test.YtlecnodlnkanaaaPGA
import Derived.Test.YtlecnodlnkanaaaPGA
import Derived.Test.YtlecnodlnkanaaaPGE
import Derived.Test.YtlecnodlnkanaaaPGE
import Derived.Test.YtlecnodlnkanaaaPGE
import Derived.Lib.IndexAny
namespace Go.Proofs.Ytlecnodlnkanaaa.X
open Go.RowKit Go.Proofs.YtlecnodlnkanaaaW.PrintWords Go.Proofs.YtlecnodlnkanaaaW.PrintLast Go.Proofs.YtlecnodlnkanaaaW.PrintMore
attribute [local go_sem] max2_int min2_int max_two min_two max_three min_three max_four min_four
set_option linter.unusedVariables false
set_option linter.unusedSimpArgs false

open Go.Proofs.YtlecnodlnkanaaaY
noncomputable instance ndDec (n m : Nd) : Decidable (n = m) := Classical.propDecidable _
theorem map_str_inj : ∀ {a b : List (List Int)}, (∀ x ∈ a, byteOk x) → (∀ x ∈ b, byteOk x) → a.map strOfNums = b.map strOfNums → a = b
  | [], [], _, _, _ => rfl
  | [], y :: b, _, _, h => by cases h
  | x :: a, [], _, _, h => by cases h
  | x :: a, y :: b, ha, hb, h => by
    simp only [List.map_cons, List.cons.injEq] at h
    rw [(strOfNums_inj (ha x (.head _)) (hb y (.head _))).1 h.1, map_str_inj (fun z hz => ha z (.tail _ hz)) (fun z hz => hb z (.tail _ hz)) h.2]
theorem sameF_bytes {a b : List (List Int)} (ha : ∀ x ∈ a, byteOk x) (hb : ∀ x ∈ b, byteOk x) : sameF a b = decide (a = b) := by
  unfold sameF
  exact decide_eq_decide.2 ⟨fun h => map_str_inj ha hb h, fun h => by rw [h]⟩
theorem longL_bytes {kind : Int} {s : ByteArray} (hk : kind = 75 ∨ kind = 76) (hs : s.size ≤ 10000) : ∀ x ∈ longL kind s, byteOk x := by
  intro x hx
  unfold longL at hx
  rcases List.mem_cons.1 hx with rfl | hx
  · rw [longHead hk hs]
    exact byteOk_hdBlk (by show 0 ≤ kind ∧ kind ≤ 255; omega)
  · exact byteOk_cutL _ x hx
theorem entryB_bytes {n : Nd} (h : OneFacts n) : ∀ x ∈ entryB n, byteOk x := by
  have hz := mayL_pos h.path
  have hl := h.link
  have hk := h.kinds
  intro x hx
  unfold entryB at hx
  rw [aheadB_one h] at hx
  rcases List.mem_append.1 hx with hx | hx
  · rcases List.mem_append.1 hx with hx | hx
    · by_cases c : (needsB n.f0 n.f1).2 = true
      · rw [if_pos c] at hx; exact longL_bytes (.inl rfl) (by omega) x hx
      · rw [if_neg c] at hx; cases hx
    · by_cases c : (needsB n.f0 n.f1).1 = true
      · rw [if_pos c] at hx; exact longL_bytes (.inr rfl) (by omega) x hx
      · rw [if_neg c] at hx; cases hx
  · rcases List.mem_cons.1 hx with rfl | hx
    · exact byteOk_hdBlk (by show 0 ≤ n.f2 ∧ n.f2 ≤ 255; omega)
    · exact byteOk_cutL _ x hx
theorem entry_same {n m : Nd} (hn : OneFacts n) (hm : OneFacts m) : sameF (entryB n) (entryB m) = decide (n = m) := by
  rw [sameF_bytes (entryB_bytes hn) (entryB_bytes hm)]
  exact decide_eq_decide.2 ⟨fun h => entryB_inj hn hm h, fun h => by rw [h]⟩

end Go.Proofs.Ytlecnodlnkanaaa.X
