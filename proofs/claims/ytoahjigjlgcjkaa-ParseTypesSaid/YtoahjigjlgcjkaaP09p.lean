/- What entry.Put hands out, read. -/
import Derived.Test.YtoahjigjlgcjkaaXK
import Derived.Test.YtoahjigjlgcjkaaXGentry
import Derived.Test.YtoahjigjlgcjkaaYAll
import Derived.Test.YtoahjigjlgcjkaaYAll
import Derived.Test.YtoahjigjlgcjkaaPGA
import Derived.Test.YtoahjigjlgcjkaaPGA
import Derived.Test.YtoahjigjlgcjkaaPGA
import Derived.Test.YtoahjigjlgcjkaaPGA
import Derived.Test.YtoahjigjlgcjkaaPGA
import Derived.Test.YtoahjigjlgcjkaaPGA
import Derived.Test.YtoahjigjlgcjkaaPGA
import Derived.Test.YtoahjigjlgcjkaaPGA
import Derived.Test.YtoahjigjlgcjkaaPGA
import Derived.Test.YtoahjigjlgcjkaaPGA
import Derived.Test.YtoahjigjlgcjkaaPGA
import Derived.Test.YtoahjigjlgcjkaaPGA
import Derived.Test.YtoahjigjlgcjkaaPGE
import Derived.Test.YtoahjigjlgcjkaaPGE
import Derived.Test.YtoahjigjlgcjkaaPGE
import Derived.Test.YtoahjigjlgcjkaaPGE
import Derived.Test.YtoahjigjlgcjkaaPGE
namespace Go.Proofs.Ytoahjigjlgcjkaa.X
open Go.RowKit Go.Proofs.YtoahjigjlgcjkaaW.PrintWords Go.Proofs.YtoahjigjlgcjkaaW.PrintLast Go.Proofs.YtoahjigjlgcjkaaW.PrintMore
attribute [local go_sem] max2_int min2_int max_two min_two
set_option linter.unusedVariables false
set_option linter.unusedSimpArgs false

open Go.Proofs.YtoahjigjlgcjkaaY
theorem put9_any {n : Nd} {r1 : List (List Int)} {r2 : Bool} (hp : entry_Put.f n.f0 n.f1 n.f2 n.f3 n.f4 n.f5 n.f6 n.f7 = some (r1, r2)) (W : World) :
    Calls Try.prog 21 #[.agg #[.string n.f0, .string n.f1, .int .u8 n.f2, .int .i64 n.f3, .int .i64 n.f4, .int .i64 n.f5, .int .i64 n.f6, .string n.f7]] W fun e w' => ∃ A c, e = .returned (.tuple #[.slice A r1.length c, .bool r2]) ∧ Aside0 (Kd.C kRow w' A r1.length r1) ∧ Aside0 (r1.length ≤ c) ∧ Below W.heap.size W w' :=
  (entry_Put.calls n.f0 n.f1 n.f2 n.f3 n.f4 n.f5 n.f6 n.f7 r1 r2 W hp).mono fun e w' ⟨v, he, hR, hb⟩ => by
    obtain ⟨A, c, rfl, h1, h2⟩ := Kd.R_reads hR
    exact ⟨A, c, he, ⟨h2⟩, ⟨h1⟩, hb⟩
theorem put9_yes {n : Nd} (ho : oneB n = true) (W : World) :
    Calls Try.prog 21 #[.agg #[.string n.f0, .string n.f1, .int .u8 n.f2, .int .i64 n.f3, .int .i64 n.f4, .int .i64 n.f5, .int .i64 n.f6, .string n.f7]] W fun e w' => ∃ A c, e = .returned (.tuple #[.slice A (entryB n).length c, .bool true]) ∧ Aside0 (Kd.C kRow w' A (entryB n).length (entryB n)) ∧ Aside0 ((entryB n).length ≤ c) ∧ Below W.heap.size W w' :=
  put9_any (entryPut_yes ho) W
theorem put9_no {n : Nd} (h0 : n.f0.size ≤ 10000) (h1 : n.f1.size ≤ 10000) (ho : oneB n = false) (W : World) :
    Calls Try.prog 21 #[.agg #[.string n.f0, .string n.f1, .int .u8 n.f2, .int .i64 n.f3, .int .i64 n.f4, .int .i64 n.f5, .int .i64 n.f6, .string n.f7]] W fun e w' => ∃ A c, e = .returned (.tuple #[.slice A 0 c, .bool false]) ∧ Aside0 (Kd.C kRow w' A 0 []) ∧ Aside0 (0 ≤ c) ∧ Below W.heap.size W w' :=
  put9_any (entryPut_no h0 h1 ho) W
theorem longL_by {kind : Int} {s : ByteArray} (hk : kind = 75 ∨ kind = 76) (hs : s.size ≤ 10000) : ∀ x ∈ longL kind s, byteOk x := by
  intro x hx
  unfold longL at hx
  rcases List.mem_cons.1 hx with rfl | hx
  · rw [longHead hk hs]
    exact byteOk_hdBlk (by show 0 ≤ kind ∧ kind ≤ 255; omega)
  · exact byteOk_cutL _ x hx
theorem entryB_by {n : Nd} (h : OneFacts n) : ∀ x ∈ entryB n, byteOk x := by
  have hz := mayL_pos h.path
  have hl := h.link
  have hk := h.kinds
  intro x hx
  unfold entryB at hx
  rw [aheadB_one h] at hx
  rcases List.mem_append.1 hx with hx | hx
  · rcases List.mem_append.1 hx with hx | hx
    · by_cases c : (needsB n.f0 n.f1).2 = true
      · rw [if_pos c] at hx; exact longL_by (.inl rfl) (by omega) x hx
      · rw [if_neg c] at hx; cases hx
    · by_cases c : (needsB n.f0 n.f1).1 = true
      · rw [if_pos c] at hx; exact longL_by (.inr rfl) (by omega) x hx
      · rw [if_neg c] at hx; cases hx
  · rcases List.mem_cons.1 hx with rfl | hx
    · exact byteOk_hdBlk (by show 0 ≤ n.f2 ∧ n.f2 ≤ 255; omega)
    · exact byteOk_cutL _ x hx

end Go.Proofs.Ytoahjigjlgcjkaa.X
