import Derived.Test.YtklbnfpjjcidiaaXK
import Derived.Test.YtklbnfpjjcidiaaYAll
import Derived.Test.YtklbnfpjjcidiaaPGA
import Derived.Laws.Cover1
import Derived.Laws.EntriesVeiled
import Derived.Lib.Bytealg
import Derived.WalkSpells
namespace Go.Proofs.Ytklbnfpjjcidiaa.X
open Go.RowKit Go.Proofs.YtklbnfpjjcidiaaW.PrintWords Go.Proofs.YtklbnfpjjcidiaaW.PrintLast Go.Proofs.YtklbnfpjjcidiaaW.PrintMore
attribute [local go_sem] max2_int min2_int max_two min_two
set_option linter.unusedVariables false
set_option linter.unusedSimpArgs false

open Go.Proofs.YtklbnfpjjcidiaaY
theorem CompareString.at_ (a b : ByteArray) (w : World) :
    Calls Try.prog 68 #[.string a, .string b] w fun e w' => e = .returned (.int .i64 (Lib.compareBytes a.data.toList b.data.toList)) ∧ w' = w := by
  go_enter Try.func68, Try.ntmps68
  go_wp2
  rw [run_callFunc_extern Try.func74 (by kernel_rfl) (by kernel_rfl) (by kernel_rfl) (e := Extern.BytealgCompare.compare) (by kernel_rfl), Lib.run_compareString]
  simp only [Result.andThen]
  rw [Oper.upon_value]
  go_wp2
  go_ret
  exact ⟨rfl, rfl⟩
end Go.Proofs.Ytklbnfpjjcidiaa.X
namespace Go.Proofs.Ytklbnfpjjcidiaa.X
open Go.RowKit Go.Proofs.YtklbnfpjjcidiaaW.PrintWords Go.Proofs.YtklbnfpjjcidiaaW.PrintLast Go.Proofs.YtklbnfpjjcidiaaW.PrintMore
attribute [local go_sem] max2_int min2_int max_two min_two
set_option linter.unusedVariables false
set_option linter.unusedSimpArgs false

theorem strings_Compare.at_ (a b : ByteArray) (w : World) :
    Calls Try.prog 53 #[.string a, .string b] w fun e w' => e = .returned (.int .i64 (Lib.compareBytes a.data.toList b.data.toList)) ∧ w' = w := by
  have h := fun W => CompareString.at_ a b W
  go_enter Try.func53, Try.ntmps53
  go_wp2_with (go_at_call 68; refine (h _).mono ?_; rintro e w' ⟨rfl, rfl⟩)
  go_ret
  exact ⟨rfl, rfl⟩
end Go.Proofs.Ytklbnfpjjcidiaa.X
namespace Go.Proofs.Ytklbnfpjjcidiaa.X
open Go.RowKit Go.Proofs.YtklbnfpjjcidiaaW.PrintWords Go.Proofs.YtklbnfpjjcidiaaW.PrintLast Go.Proofs.YtklbnfpjjcidiaaW.PrintMore
attribute [local go_sem] max2_int min2_int max_two min_two
set_option linter.unusedVariables false
set_option linter.unusedSimpArgs false

theorem fs_at_1.at_ (a0 a1 : ByteArray) (a2 a3 a4 a5 a6 : Int) (a7 p : ByteArray) (w : World) :
    Calls Try.prog 52 #[.agg #[.string a0, .string a1, .int .u8 a2, .int .i64 a3, .int .i64 a4, .int .i64 a5, .int .i64 a6, .string a7], .string p] w fun e w' => e = .returned (.int .i64 (Lib.compareBytes a0.data.toList p.data.toList)) ∧ Below w.heap.size w w' := by
  have h := fun W => strings_Compare.at_ a0 p W
  have HB := Aside0.mk (below_alloc (Below.refl w.heap.size w) (.cells #[.string a0, .string a1, .int .u8 a2, .int .i64 a3, .int .i64 a4, .int .i64 a5, .int .i64 a6, .string a7] 26))
  have z0 := (blk_cell (heap_alloc_new w (.cells #[.string a0, .string a1, .int .u8 a2, .int .i64 a3, .int .i64 a4, .int .i64 a5, .int .i64 a6, .string a7] 26)) 0).trans (show _ = some (Value.string a0) from rfl)
  go_enter Try.func52, Try.ntmps52
  go_wp2_with (go_at_call 53; refine (h _).mono ?_; rintro e w' ⟨rfl, rfl⟩)
  go_ret
  exact ⟨rfl, HB.out⟩
end Go.Proofs.Ytklbnfpjjcidiaa.X
namespace Go.Proofs.Ytklbnfpjjcidiaa.X
open Go.RowKit Go.Proofs.YtklbnfpjjcidiaaW.PrintWords Go.Proofs.YtklbnfpjjcidiaaW.PrintLast Go.Proofs.YtklbnfpjjcidiaaW.PrintMore
attribute [local go_sem] max2_int min2_int max_two min_two
set_option linter.unusedVariables false
set_option linter.unusedSimpArgs false

open Go.Proofs.YtklbnfpjjcidiaaY
abbrev kNd : Kd Nd := k26
/-- Is a path ahead of another one? -/
def ltB (a b : ByteArray) : Bool := Op.bytesLess a.toList b.toList
theorem compare_is : ∀ (a b : List UInt8), Lib.compareBytes a b = if Op.bytesLess a b = true then -1 else if a = b then 0 else 1
  | [], [] => by simp [Lib.compareBytes, Op.bytesLess]
  | [], _ :: _ => by simp [Lib.compareBytes, Op.bytesLess]
  | _ :: _, [] => by simp [Lib.compareBytes, Op.bytesLess]
  | x :: a, y :: b => by
    have ih := compare_is a b
    unfold Lib.compareBytes
    by_cases h1 : x < y
    · rw [if_pos h1, if_pos (by simp [Op.bytesLess, h1])]
    · rw [if_neg h1]
      by_cases h2 : y < x
      · rw [if_pos h2, if_neg (by simp [Op.bytesLess, h1]; rintro rfl; exact absurd h2 (UInt8.lt_irrefl _)), if_neg (by rintro e; injection e with e _; subst e; exact h1 h2)]
      · have e : x = y := UInt8.le_antisymm (UInt8.not_lt.1 h2) (UInt8.not_lt.1 h1)
        subst e
        rw [if_neg h2, ih]
        simp [Op.bytesLess, h1]
theorem compare_lt (a b : ByteArray) : decide (Lib.compareBytes a.data.toList b.data.toList < 0) = ltB a b := by
  rw [compare_is]
  unfold ltB
  rw [Lib.toList_data, Lib.toList_data]
  cases Op.bytesLess a.data.toList b.data.toList with
  | true => rfl
  | false =>
    rw [if_neg (by decide)]
    split <;> rfl
theorem compare_eq (a b : ByteArray) : (Lib.compareBytes a.data.toList b.data.toList == 0) = (a.toList == b.toList) := by
  rw [compare_is, Lib.toList_data, Lib.toList_data]
  cases h : Op.bytesLess a.data.toList b.data.toList with
  | true =>
    rw [if_pos rfl]
    exact (beq_eq_false_iff_ne.2 (fun e => less_ne h e)).symm
  | false =>
    rw [if_neg (by decide)]
    by_cases e : a.data.toList = b.data.toList
    · rw [if_pos e, e]; simp
    · rw [if_neg e, beq_eq_false_iff_ne.2 e]; rfl
/-- Nodes by rising paths. -/
def Sorted (l : List Nd) : Prop := l.Pairwise (fun a b => ltB a.f0 b.f0 = true)
/-- Where a path stands, or belongs. -/
def fsIdx (l : List Nd) (p : ByteArray) : Nat := l.findIdx (fun n => !ltB n.f0 p)
def fsHas (l : List Nd) (p : ByteArray) : Bool := match l[fsIdx l p]? with
  | some n => n.f0.toList == p.toList
  | none => false
theorem fsIdx_is {l : List Nd} {p : ByteArray} {i : Nat} (hi : i ≤ l.length) (h1 : ∀ j (hj : j < l.length), j < i → ltB l[j].f0 p = true) (h2 : ∀ (hj : i < l.length), ltB l[i].f0 p = false) : fsIdx l p = i := by
  unfold fsIdx
  by_cases h : i < l.length
  · rw [List.findIdx_eq h]
    exact ⟨by rw [h2 h]; rfl, fun j hj => by rw [h1 j (by omega) hj]; rfl⟩
  · obtain rfl : i = l.length := by omega
    rw [List.findIdx_eq_length]
    intro x hx
    obtain ⟨j, hj, rfl⟩ := List.mem_iff_getElem.1 hx
    rw [h1 j hj hj]; rfl
theorem nd_cells {w : World} {A : Option Addr} {n : Nat} {t : List Nd} (h : Kd.C kNd w A n t) {i : Nat} (hi : i < n) (x : Nd) (hx : t[i]? = some x) : ∃ ad, A = some ad ∧ w.cell? (ad.add (i * 8)) = some (.string x.f0) ∧ w.cell? ⟨(ad.add (i * 8)).block, (ad.add (i * 8)).off + 1, none⟩ = some (.string x.f1) ∧ w.cell? ⟨(ad.add (i * 8)).block, (ad.add (i * 8)).off + 2, none⟩ = some (.int .u8 x.f2) ∧ w.cell? ⟨(ad.add (i * 8)).block, (ad.add (i * 8)).off + 3, none⟩ = some (.int .i64 x.f3) ∧ w.cell? ⟨(ad.add (i * 8)).block, (ad.add (i * 8)).off + 4, none⟩ = some (.int .i64 x.f4) ∧ w.cell? ⟨(ad.add (i * 8)).block, (ad.add (i * 8)).off + 5, none⟩ = some (.int .i64 x.f5) ∧ w.cell? ⟨(ad.add (i * 8)).block, (ad.add (i * 8)).off + 6, none⟩ = some (.int .i64 x.f6) ∧ w.cell? ⟨(ad.add (i * 8)).block, (ad.add (i * 8)).off + 7, none⟩ = some (.string x.f7) := by
  have h1 := at_T26 h (i : Int) (by omega) (by omega)
  have e : rd_T26 t (i : Int) = x := by unfold rd_T26; rw [Int.toNat_natCast, List.getD_eq_getElem?_getD, hx]; rfl
  rw [e, Int.toNat_natCast] at h1
  exact h1
set_option maxRecDepth 100000 in
set_option maxHeartbeats 3200000 in
theorem bsearch.at_ (A : Option Addr) (c : Nat) (l : List Nd) (p : ByteArray) (w : World) (hs : Sorted l) (hC : Kd.C kNd w A l.length l) (hl : l.length ≤ 1000000) :
    Calls Try.prog 51 #[.slice A l.length c, .string p, .func (.func 52) #[] #[]] w fun e w' => e = .returned (.tuple #[.int .i64 (fsIdx l p : Nat), .bool (fsHas l p)]) ∧ Below w.heap.size w w' := by
  have HC := Aside0.mk hC
  have HS := Aside0.mk hs
  clear hC hs
  go_enter Try.func51, Try.ntmps51
  go_wp2
  go_loopw [9, 10, 11] (fun v9 v10 _ wr => ∃ i j : Nat, v9 = .int .i64 i ∧ v10 = .int .i64 j ∧ i ≤ j ∧ j ≤ l.length ∧ Aside0 (∀ k (hk : k < l.length), k < i → ltB l[k].f0 p = true) ∧ Aside0 (∀ k (hk : k < l.length), j ≤ k → ltB l[k].f0 p = false) ∧ Aside0 (Below w.heap.size w wr)) (fun v9 v10 _ _ => (intOf v10).toNat - (intOf v9).toNat)
  case atStart => exact ⟨0, l.length, rfl, rfl, Nat.zero_le _, Nat.le_refl _, ⟨fun k _ h => absurd h (Nat.not_lt_zero _)⟩, ⟨fun k h h2 => absurd h (by omega)⟩, ⟨Below.refl _ _⟩⟩
  case round =>
    obtain ⟨i, j, rfl, rfl, hij, hjl, H1, H2, HB⟩ := hrel
    by_cases hlt : i < j
    · have a1 : (i : Int) < (j : Int) := by omega
      go_upto_region 5 with (fail)
      obtain ⟨m, hm⟩ : ∃ m : Nat, ((i : Int) + (j : Int)) / 2 = (m : Int) := ⟨(i + j) / 2, by omega⟩
      have hm1 : i ≤ m := by omega
      have hm2 : m < j := by omega
      have hml : m < l.length := by omega
      rw [hm]
      clear hm a1
      obtain ⟨ad, rfl, k0, k1, k2, k3, k4, k5, k6, k7⟩ := nd_cells (Kd.C_below HC.out HB.out) hml l[m] (List.getElem?_eq_getElem hml)
      have hm0 : (0 : Int) ≤ (m : Int) := by omega
      have hm3 : (m : Int) < (l.length : Int) := by omega
      have hcmp := fun W => fs_at_1.at_ l[m].f0 l[m].f1 l[m].f2 l[m].f3 l[m].f4 l[m].f5 l[m].f6 l[m].f7 p W
      have hlt1 := compare_lt l[m].f0 p
      have hb0 : ltB l[m].f0 p = true → ∀ k (hk : k < l.length), k < m + 1 → ltB l[k].f0 p = true := by
        intro h k hk hkm
        rcases Nat.lt_or_ge k m with e | e
        · exact less_trans (List.pairwise_iff_getElem.1 HS.out k m hk hml e) h
        · obtain rfl : k = m := by omega
          exact h
      have hb1 : ltB l[m].f0 p = false → ∀ k (hk : k < l.length), m ≤ k → ltB l[k].f0 p = false := by
        intro h k hk hkm
        rcases Nat.lt_or_ge m k with e | e
        · rw [← Bool.not_eq_true]
          intro h2
          have := less_trans (List.pairwise_iff_getElem.1 HS.out m k hml hk e) h2
          unfold ltB at h
          rw [this] at h
          cases h
        · obtain rfl : k = m := by omega
          exact h
      have HB0 := Aside0.mk hb0
      have HB1 := Aside0.mk hb1
      clear hb0 hb1
      generalize Lib.compareBytes l[m].f0.data.toList p.data.toList = cb at hcmp hlt1
      have hw : IntKind.i64.wrap ((m : Int) + 1) = ((m + 1 : Nat) : Int) := by rw [i64_w, wrap_id (by omega) (by omega)]; omega
      cases hb : ltB l[m].f0 p with
      | true =>
        rw [hb] at hlt1
        have HBx := Aside0.mk (HB0.out hb)
        generalize l[m] = x at *
        obtain ⟨f0, f1, f2, f3, f4, f5, f6, f7⟩ := x
        simp only at k0 k1 k2 k3 k4 k5 k6 k7 hcmp
        clear hb HB0 HB1
        go_wp2_with (first | (go_at_call 52; refine (hcmp _).mono ?_; rintro e w2 ⟨rfl, hbw⟩; have HB2 := Aside0.mk (below_step HB.out hbw); clear hbw k0 k1 k2 k3 k4 k5 k6 k7))
        go_roundw
        case rel => exact ⟨m + 1, j, by go_num, rfl, by omega, hjl, HBx, H2, HB2⟩
        case measure => simp [intOf]; omega
      | false =>
        rw [hb] at hlt1
        have HBx := Aside0.mk (HB1.out hb)
        generalize l[m] = x at *
        obtain ⟨f0, f1, f2, f3, f4, f5, f6, f7⟩ := x
        simp only at k0 k1 k2 k3 k4 k5 k6 k7 hcmp
        clear hb HB0 HB1
        go_wp2_with (first | (go_at_call 52; refine (hcmp _).mono ?_; rintro e w2 ⟨rfl, hbw⟩; have HB2 := Aside0.mk (below_step HB.out hbw); clear hbw k0 k1 k2 k3 k4 k5 k6 k7))
        go_roundw
        case rel => exact ⟨i, m, rfl, rfl, hm1, by omega, H1, HBx, HB2⟩
        case measure => simp [intOf]; omega
    · obtain rfl : i = j := by omega
      have a1 : ¬ ((i : Int) < (i : Int)) := by omega
      have hidx : fsIdx l p = i := fsIdx_is hjl H1.out (fun hj => H2.out i hj (Nat.le_refl _))
      by_cases hin : i < l.length
      · obtain ⟨ad, rfl, k0, k1, k2, k3, k4, k5, k6, k7⟩ := nd_cells (Kd.C_below HC.out HB.out) hin l[i] (List.getElem?_eq_getElem hin)
        have hm0 : (0 : Int) ≤ (i : Int) := by omega
        have hm3 : (i : Int) < (l.length : Int) := by omega
        have hcmp := fun W => fs_at_1.at_ l[i].f0 l[i].f1 l[i].f2 l[i].f3 l[i].f4 l[i].f5 l[i].f6 l[i].f7 p W
        have heq := compare_eq l[i].f0 p
        have hhas : fsHas l p = (l[i].f0.toList == p.toList) := by unfold fsHas; rw [hidx, List.getElem?_eq_getElem hin]
        rw [← heq] at hhas
        have HHAS := Aside0.mk hhas
        have HIDX := Aside0.mk hidx
        clear hhas hidx heq
        generalize Lib.compareBytes l[i].f0.data.toList p.data.toList = cb at hcmp HHAS
        generalize l[i] = x at *
        obtain ⟨f0, f1, f2, f3, f4, f5, f6, f7⟩ := x
        simp only at k0 k1 k2 k3 k4 k5 k6 k7 hcmp
        go_wp2_with (first | (go_at_call 52; refine (hcmp _).mono ?_; rintro e w2 ⟨rfl, hbw⟩; have HB2 := Aside0.mk (below_step HB.out hbw); clear hbw k0 k1 k2 k3 k4 k5 k6 k7))
        go_ret2
        exact ⟨by rw [HHAS.out, HIDX.out]; rfl, HB2.out⟩
      · have hm3 : ¬ (i : Int) < (l.length : Int) := by omega
        have hhas : fsHas l p = false := by unfold fsHas; rw [hidx, List.getElem?_eq_none (by omega)]
        have HHAS := Aside0.mk hhas
        have HIDX := Aside0.mk hidx
        clear hhas hidx
        go_wp2_with (fail)
        go_ret2
        exact ⟨by rw [HHAS.out, HIDX.out]; rfl, HB.out⟩

end Go.Proofs.Ytklbnfpjjcidiaa.X
