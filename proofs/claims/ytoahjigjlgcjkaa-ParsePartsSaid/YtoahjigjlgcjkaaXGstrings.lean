import Derived.Test.YtoahjigjlgcjkaaXK
import Derived.Lib.Bytealg
import Derived.Lib.IndexLaws
import Derived.Lib.Slices
import Derived.Lib.Strings
import Derived.Lib.Walk
import Derived.WalkSpells
namespace Go.Proofs.Ytoahjigjlgcjkaa.X
open Go.RowKit Go.Proofs.YtoahjigjlgcjkaaW.PrintWords Go.Proofs.YtoahjigjlgcjkaaW.PrintLast Go.Proofs.YtoahjigjlgcjkaaW.PrintMore
attribute [local go_sem] max2_int min2_int max_two min_two
set_option linter.unusedVariables false
set_option linter.unusedSimpArgs false

def strings_IndexByte.f (a0 : ByteArray) (a1 : Int) : Option (Int) := some (Lib.indexByte a0.data.toList a1.toNat.toUInt8)
set_option maxHeartbeats 1000000 in
set_option maxRecDepth 100000 in
theorem stringslite_IndexByte.at_ (s : ByteArray) (c : Int) (w : World) :
    Calls Try.prog 62 #[.string s, .int .u8 c] w fun e w' => e = .returned (.int .i64 (Lib.indexByte s.data.toList c.toNat.toUInt8)) ∧ w = w' := by
  go_enter Try.func62, Try.ntmps62
  go_wp2
  rw [run_callFunc_extern Try.func85 (by kernel_rfl) (by kernel_rfl) (by kernel_rfl) (e := Extern.BytealgIndexByte.indexByte) (by kernel_rfl), Lib.run_indexByteString]
  simp only [Result.andThen]
  rw [Oper.upon_value]
  go_wp2
  go_ret
  exact ⟨rfl, rfl⟩
set_option maxHeartbeats 1000000 in
theorem strings_IndexByte.calls (a0 : ByteArray) (a1 : Int) (r : Int) (w : World) (h : strings_IndexByte.f a0 a1 = some r) :
    Calls Try.prog 37 #[.string a0, .int .u8 a1] w fun e w' => e = .returned (.int .i64 r) ∧ Drawn0 w w' := by
  obtain rfl := Option.some.inj h
  clear h
  go_enter Try.func37, Try.ntmps37
  go_wp2_with (go_at_call 62; refine (stringslite_IndexByte.at_ _ _ _).mono ?_; rintro e w' ⟨rfl, rfl⟩)
  go_ret
  exact ⟨rfl, Drawn0.refl _⟩

end Go.Proofs.Ytoahjigjlgcjkaa.X
namespace Go.Proofs.Ytoahjigjlgcjkaa.X
open Go.RowKit Go.Proofs.YtoahjigjlgcjkaaW.PrintWords Go.Proofs.YtoahjigjlgcjkaaW.PrintLast Go.Proofs.YtoahjigjlgcjkaaW.PrintMore
attribute [local go_sem] max2_int min2_int max_two min_two
set_option linter.unusedVariables false
set_option linter.unusedSimpArgs false

/-- What strings.Cut tells at a separator of one byte. -/
def cut1 (s : ByteArray) (c : UInt8) : ByteArray × ByteArray × Bool :=
  if 0 ≤ Lib.indexByte s.data.toList c then (s.extract 0 (Lib.indexByte s.data.toList c).toNat, s.extract ((Lib.indexByte s.data.toList c).toNat + 1) s.size, true) else (s, ⟨#[]⟩, false)
set_option maxHeartbeats 1000000 in
set_option maxRecDepth 100000 in
theorem stringslite_Index.at1 (s : ByteArray) (c : UInt8) (w : World) :
    Calls Try.prog 96 #[.string s, .string ⟨#[c]⟩] w fun e w' => e = .returned (.int .i64 (Lib.indexByte s.data.toList c)) ∧ w = w' := by
  go_enter Try.func96, Try.ntmps96
  go_wp2_with (first | (go_at_call 62; refine (stringslite_IndexByte.at_ _ _ _).mono ?_; rintro e w' ⟨rfl, rfl⟩) | fail)
  · have h : ([c] == s.toList) = true := by assumption
    have e : [c] = s.toList := by simpa using h
    go_ret
    refine ⟨?_, rfl⟩
    have e2 : s.data.toList = [c] := by rw [← Lib.toList_data]; exact e.symm
    rw [e2]
    simp [Lib.indexByte]
  · go_ret
    refine ⟨?_, rfl⟩
    simp only [Ending.returned.injEq, Value.int.injEq, true_and]
    simp
    rfl
theorem stringslite_Index.at2 (s : ByteArray) (c : UInt8) (i : Int) (h : Aside0 (Lib.indexByte s.data.toList c = i)) (w : World) :
    Calls Try.prog 96 #[.string s, .string ⟨#[c]⟩] w fun e w' => e = .returned (.int .i64 i) ∧ w = w' := by
  obtain rfl := h.out
  exact stringslite_Index.at1 s c w
set_option maxHeartbeats 1000000 in
set_option maxRecDepth 100000 in
theorem stringslite_Cut.at1 (s : ByteArray) (c : UInt8) (hs : s.size ≤ 9223372036854775807) (w : World) :
    Calls Try.prog 84 #[.string s, .string ⟨#[c]⟩] w fun e w' => e = .returned (.tuple #[.string (cut1 s c).1, .string (cut1 s c).2.1, .bool (cut1 s c).2.2]) ∧ Drawn0 w w' := by
  by_cases hi : 0 ≤ Lib.indexByte s.data.toList c
  · have hlt : (Lib.indexByte s.data.toList c).toNat < s.size := by
      obtain ⟨n, hn⟩ := Int.eq_ofNat_of_zero_le hi
      have := (Lib.indexByte_some hn).1
      rw [hn]
      have h2 := (List.getElem?_eq_some_iff.1 this).1
      simpa using h2
    have e : cut1 s c = (s.extract 0 (Lib.indexByte s.data.toList c).toNat, s.extract ((Lib.indexByte s.data.toList c).toNat + 1) s.size, true) := if_pos hi
    rw [e]
    clear e
    obtain ⟨n, hn⟩ := Int.eq_ofNat_of_zero_le hi
    rw [hn] at hlt ⊢
    clear hi
    have HN := Aside0.mk hn
    clear hn
    simp only [Int.toNat_natCast] at hlt ⊢
    have h1 : n + 1 ≤ s.size := hlt
    have h2 : n ≤ s.size := by omega
    have h3 : (n : Int) + 1 ≤ 9223372036854775807 := by omega
    have h4 : (n : Int) ≤ 9223372036854775807 := by omega
    go_enter Try.func84, Try.ntmps84
    go_wp2_with (first | (go_at_call 96; refine (stringslite_Index.at2 _ _ _ HN _).mono ?_; rintro e w' ⟨rfl, rfl⟩) | fail)
    go_quiet (fail)
    go_wp2
    go_ret3
    exact ⟨by simp, ⟨_, rfl⟩⟩
  · have e : cut1 s c = (s, ⟨#[]⟩, false) := if_neg hi
    rw [e]
    clear e
    obtain ⟨i, hn⟩ : ∃ i, Lib.indexByte s.data.toList c = i := ⟨_, rfl⟩
    rw [hn] at hi
    have HN := Aside0.mk hn
    clear hn
    go_enter Try.func84, Try.ntmps84
    go_wp2_with (first | (go_at_call 96; refine (stringslite_Index.at2 _ _ _ HN _).mono ?_; rintro e w' ⟨rfl, rfl⟩) | fail)
    go_ret3
    exact ⟨rfl, Drawn0.refl _⟩
set_option maxHeartbeats 1000000 in
set_option maxRecDepth 100000 in
theorem strings_Cut1.at_ (s : ByteArray) (c : UInt8) (hs : s.size ≤ 9223372036854775807) (w : World) :
    Calls Try.prog 61 #[.string s, .string ⟨#[c]⟩] w fun e w' => e = .returned (.tuple #[.string (cut1 s c).1, .string (cut1 s c).2.1, .bool (cut1 s c).2.2]) ∧ Drawn0 w w' := by
  go_enter Try.func61, Try.ntmps61
  go_wp2_with (first | (go_at_call 84; refine (stringslite_Cut.at1 _ _ hs _).mono ?_; rintro e w' ⟨rfl, ⟨nd, rfl⟩⟩) | fail)
  go_ret3
  exact ⟨rfl, ⟨_, rfl⟩⟩

end Go.Proofs.Ytoahjigjlgcjkaa.X
