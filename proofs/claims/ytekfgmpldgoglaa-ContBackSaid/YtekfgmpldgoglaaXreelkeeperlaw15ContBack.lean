import Derived.Test.YtekfgmpldgoglaaXK
import Derived.Test.YtekfgmpldgoglaaXE23
import Derived.Test.YtekfgmpldgoglaaXGblock
import Derived.Test.YtekfgmpldgoglaaXGcont
import Derived.Test.YtekfgmpldgoglaaXGcontgot
import Derived.Test.YtekfgmpldgoglaaXGlaw15
import Derived.Test.YtekfgmpldgoglaaXGslices
import Derived.Test.YtekfgmpldgoglaaXreelkeeperlaw05Few
import Derived.Test.YtekfgmpldgoglaaP04f
import Derived.Test.YtekfgmpldgoglaaP04g
import Derived.Test.YtekfgmpldgoglaaP15a
import Derived.Test.YtekfgmpldgoglaaP15b
import Derived.Test.YtekfgmpldgoglaaP15c
import Derived.Test.YtekfgmpldgoglaaPGA
import Derived.Test.YtekfgmpldgoglaaPGE
import Derived.Deep.RegionHeld3
import Derived.Laws.EntriesVeiled
import Derived.WalkSpells
namespace Go.Proofs.Ytekfgmpldgoglaa.X
open Go.RowKit Go.Proofs.YtekfgmpldgoglaaW.PrintWords Go.Proofs.YtekfgmpldgoglaaW.PrintLast Go.Proofs.YtekfgmpldgoglaaW.PrintMore
attribute [local go_sem] max2_int min2_int max_two min_two
set_option linter.unusedVariables false
set_option linter.unusedSimpArgs false

attribute [local go_sem high] eqA23
open Go.Proofs.YtekfgmpldgoglaaY
set_option maxRecDepth 100000
theorem nd_eqB15 (n m : Nd) : (n.f0.toList == m.f0.toList && (n.f1.toList == m.f1.toList && (n.f2 == m.f2 && (n.f3 == m.f3 && (n.f4 == m.f4 && (n.f5 == m.f5 && (n.f6 == m.f6 && (n.f7.toList == m.f7.toList)))))))) = decide (n = m) := by
  rw [toList_eq, toList_eq, toList_eq, Bool.eq_iff_iff, decide_eq_true_eq]
  simp only [Bool.and_eq_true, decide_eq_true_eq, beq_iff_eq]
  constructor
  · rintro ⟨h0, h1, h2, h3, h4, h5, h6, h7⟩
    cases n
    cases m
    simp only at h0 h1 h2 h3 h4 h5 h6 h7
    subst h0 h1 h2 h3 h4 h5 h6 h7
    rfl
  · rintro rfl
    exact ⟨rfl, rfl, rfl, rfl, rfl, rfl, rfl, rfl⟩
/-- A row's own header. -/
abbrev Tr := Option Addr × Nat × Nat
def encT (t : Tr) : Value := .slice t.1 t.2.1 t.2.2
theorem encT_one : ∀ t : Tr, (encT t).oneCell' = true := fun _ => rfl
abbrev kTr : Kd Tr := Kd.scalar encT encT_one
def InT (w : World) (t : Tr) (x : List Int) : Prop := t.2.1 = x.length ∧ x.length ≤ t.2.2 ∧ (Kd.int .u8).C w t.1 x.length x
theorem InT.below {w w' : World} {t : Tr} {x : List Int} (h : InT w t x) (b : Below w.heap.size w w') : InT w' t x := ⟨h.1, h.2.1, Kd.C_below h.2.2 b⟩
inductive AllT (w : World) : List Tr → List (List Int) → Prop where
  | nil : AllT w [] []
  | cons {t : Tr} {x : List Int} {ts : List Tr} {xs : List (List Int)} : InT w t x → AllT w ts xs → AllT w (t :: ts) (x :: xs)
theorem AllT.length_eq {w : World} : ∀ {ts : List Tr} {xs : List (List Int)}, AllT w ts xs → ts.length = xs.length
  | _, _, .nil => rfl
  | _, _, .cons _ t => by rw [List.length_cons, List.length_cons, AllT.length_eq t]
theorem AllT.at_ {w : World} : ∀ {ts : List Tr} {xs : List (List Int)}, AllT w ts xs → ∀ (j : Nat) (t : Tr) (x : List Int), ts[j]? = some t → xs[j]? = some x → InT w t x
  | _, _, .nil, j, t, x, h, _ => by simp at h
  | _, _, .cons i _, 0, t, x, h, k => by
    simp only [List.getElem?_cons_zero, Option.some.injEq] at h k
    subst h k
    exact i
  | _, _, .cons _ r, j + 1, t, x, h, k => by
    simp only [List.getElem?_cons_succ] at h k
    exact AllT.at_ r j t x h k
/-- Rows read: their headers, and each one's bytes. -/
theorem rows_split {w : World} {A : Option Addr} {n : Nat} {xs : List (List Int)} (h : Kd.C kRow w A n xs) : ∃ ts : List Tr, Kd.C kTr w A n ts ∧ AllT w ts xs := by
  obtain ⟨hl, hm, hr⟩ := h
  rcases Nat.eq_zero_or_pos n with e | hp
  · subst e
    obtain rfl : xs = [] := List.eq_nil_of_length_eq_zero hl
    exact ⟨[], ⟨rfl, hm, fun h => absurd h (by simp)⟩, .nil⟩
  · obtain ⟨ad, rfl, hc⟩ := hr hp
    have key : ∀ (ys : List (List Int)) (i : Nat), (∀ j x, ys[j]? = some x → xs[i + j]? = some x) → ∃ ts : List Tr, AllT w ts ys ∧ ∀ j t, ts[j]? = some t → w.cell? (ad.add (i + j)) = some (encT t) := by
      intro ys
      induction ys with
      | nil => exact fun i _ => ⟨[], .nil, fun j t ht => by simp at ht⟩
      | cons x ys ih =>
        intro i hx
        obtain ⟨ts, h1, h2⟩ := ih (i + 1) (fun j y hy => by have := hx (j + 1) y (by simpa using hy); rwa [show i + 1 + j = i + (j + 1) by omega])
        obtain ⟨c, hcl, ⟨A1, c1, rfl, l1, g1⟩, hcell⟩ := hc i x (by have := hx 0 x rfl; rwa [Nat.add_zero] at this)
        refine ⟨(A1, x.length, c1) :: ts, .cons ⟨rfl, l1, g1⟩ h1, fun j t ht => ?_⟩
        cases j with
        | zero =>
          obtain rfl : (A1, x.length, c1) = t := by simpa using ht
          have h_ : w.cell? (ad.add (i * 1 + 0)) = some (.slice A1 x.length c1) := hcell 0 _ rfl
          rw [show i * 1 + 0 = i + 0 by omega] at h_
          exact h_
        | succ j =>
          have := h2 j t (by simpa using ht)
          rwa [show i + 1 + j = i + (j + 1) by omega] at this
    obtain ⟨ts, h1, h2⟩ := key xs 0 (fun j x hx => by rwa [Nat.zero_add])
    have hlen : ts.length = xs.length := h1.length_eq
    refine ⟨ts, ⟨by omega, hm, fun _ => ⟨ad, rfl, fun j t ht => ⟨[encT t], rfl, rfl, fun i u hu => ?_⟩⟩⟩, h1⟩
    cases i with
    | zero =>
      obtain rfl : encT t = u := by simpa using hu
      have h_ := h2 j t ht
      show w.cell? (ad.add (j * 1 + 0)) = _
      rwa [show j * 1 + 0 = 0 + j by omega]
    | succ i => simp at hu
theorem rows_join {w : World} {A : Option Addr} {n : Nat} {ts : List Tr} {xs : List (List Int)} (h : Kd.C kTr w A n ts) (hf : AllT w ts xs) : Kd.C kRow w A n xs := by
  obtain ⟨hl, hm, hr⟩ := h
  have hlen : ts.length = xs.length := hf.length_eq
  refine ⟨by omega, hm, fun hp => ?_⟩
  obtain ⟨ad, e, hc⟩ := hr hp
  refine ⟨ad, e, fun j x hx => ?_⟩
  have hj : j < xs.length := (List.getElem?_eq_some_iff.1 hx).1
  obtain ⟨c, hcl, hK, hcell⟩ := hc j _ (List.getElem?_eq_getElem (show j < ts.length by omega))
  have hx2 : xs[j] = x := (List.getElem?_eq_some_iff.1 hx).2
  have hin := hf.at_ j _ x (List.getElem?_eq_getElem (show j < ts.length by omega)) hx
  obtain ⟨i1, i2, i3⟩ := hin
  have hKc : c = [encT ts[j]] := hK
  refine ⟨c, hcl, ⟨ts[j].1, ts[j].2.2, ?_, i2, i3⟩, hcell⟩
  rw [hKc]
  unfold encT
  rw [i1]
theorem forall_below {w w' : World} (b : Below w.heap.size w w') : ∀ {ts : List Tr} {xs : List (List Int)}, AllT w ts xs → AllT w' ts xs
  | _, _, .nil => .nil
  | _, _, .cons h t => .cons (h.below b) (forall_below b t)
theorem forall_app {w : World} : ∀ {a b : List Tr} {x y : List (List Int)}, AllT w a x → AllT w b y → AllT w (a ++ b) (x ++ y)
  | _, _, _, _, .nil, k => k
  | _, _, _, _, .cons h t, k => .cons h (forall_app t k)
def reelkeeperlaw15_ContBack.f (k : Nat) (a0_0 a0_1 : ByteArray) (a0_2 a0_3 a0_4 a0_5 a0_6 : Int) (a0_7 : ByteArray) (x0 : Int) (l1 : List (List Int)) : Option Bool := some true
theorem ContBack_told (n : Nd) (a : Int) (l : List (List Int)) : ∃ k, reelkeeperlaw15_ContBack.f k n.f0 n.f1 n.f2 n.f3 n.f4 n.f5 n.f6 n.f7 a l = some true := ⟨0, rfl⟩
set_option maxHeartbeats 3200000 in
theorem reelkeeperlaw15_ContBack.calls (k : Nat) (a0_0 a0_1 : ByteArray) (a0_2 a0_3 a0_4 a0_5 a0_6 : Int) (a0_7 : ByteArray) (x0 : Int) (A1 : Option Addr) (c1 : Nat) (l1 : List (List Int)) (r : Bool) (w : World) (hr1 : Kd.C kRow w A1 l1.length l1) (hc1 : l1.length ≤ c1) (hy1 : ∀ x ∈ l1, ∀ y ∈ x, 0 ≤ y ∧ y ≤ 255) (h : reelkeeperlaw15_ContBack.f k a0_0 a0_1 a0_2 a0_3 a0_4 a0_5 a0_6 a0_7 x0 l1 = some r) :
    Calls Try.prog 8 #[.agg #[.string a0_0, .string a0_1, .int .u8 a0_2, .int .i64 a0_3, .int .i64 a0_4, .int .i64 a0_5, .int .i64 a0_6, .string a0_7], .int .i64 x0, .slice A1 l1.length c1] w fun e w' => e = .returned (.bool r) ∧ Below w.heap.size w w' := by
  obtain rfl : true = r := Option.some.inj h
  clear h k
  have hup := fun W => awake15.at_ W
  have hfew := fun W => reelkeeperlaw05_Few.calls a0_0 a0_1 a0_2 a0_3 a0_4 a0_5 a0_6 a0_7 _ W (few5 ⟨a0_0, a0_1, a0_2, a0_3, a0_4, a0_5, a0_6, a0_7⟩)
  cases hn : okN ⟨a0_0, a0_1, a0_2, a0_3, a0_4, a0_5, a0_6, a0_7⟩ with
  | false =>
    rw [hn] at hfew
    clear hn
    have HB0 := Aside0.mk (Below.refl w.heap.size w)
    have HB0 := Aside0.mk (below_alloc HB0.out (.cells #[.string a0_0, .string a0_1, .int .u8 a0_2, .int .i64 a0_3, .int .i64 a0_4, .int .i64 a0_5, .int .i64 a0_6, .string a0_7] 23))
    have HXn_0 := Aside0.mk (heap_alloc_new w (.cells #[.string a0_0, .string a0_1, .int .u8 a0_2, .int .i64 a0_3, .int .i64 a0_4, .int .i64 a0_5, .int .i64 a0_6, .string a0_7] 23))
    go_enter Try.func8, Try.ntmps8
    go_wp2_with (first | (go_at_call 10; refine (hup _).mono ?_; rintro e w1 ⟨rfl, hb⟩; have HB1 := Aside0.mk (below_step (by repeat (first | exact HB0.out | apply below_alloc | apply pw_below_drewN | apply below_drew1)) hb); have HXn_1 := Aside0.mk (blk_below (by repeat (first | exact HXn_0.out | apply blk_alloc | apply blk_drewN | apply blk_drew)) hb); clear hb; obtain ⟨zn0_1, zn1_1, zn2_1, zn3_1, zn4_1, zn5_1, zn6_1, zn7_1⟩ := cells8 HXn_1.out) | (go_at_call 11; refine (hfew _).mono ?_; rintro e w2 ⟨rfl, hb⟩; have HB2 := Aside0.mk (below_step (by repeat (first | exact HB1.out | apply below_alloc | apply pw_below_drewN | apply below_drew1)) hb); have HXn_2 := Aside0.mk (blk_below (by repeat (first | exact HXn_1.out | apply blk_alloc | apply blk_drewN | apply blk_drew)) hb); clear hb; obtain ⟨zn0_2, zn1_2, zn2_2, zn3_2, zn4_2, zn5_2, zn6_2, zn7_2⟩ := cells8 HXn_2.out))
    go_ret
    exact ⟨rfl, (by repeat (first | exact HB2.out | apply pw_below_drewN | apply below_drew1))⟩
  | true =>
  rw [hn] at hfew
  obtain ⟨hz0, hz1, hz7⟩ := okN_iff.1 hn
  have hlm : l1.length ≤ 9223372036854775807 := hr1.2.1
  by_cases h60 : 60 < l1.length
  · have e1 : decide ((60 : Int) < (l1.length : Int)) = true := decide_eq_true (by omega)
    have e1n : decide (60 < l1.length) = true := decide_eq_true h60
    clear hn hr1
    have HB0 := Aside0.mk (Below.refl w.heap.size w)
    have HB0 := Aside0.mk (below_alloc HB0.out (.cells #[.string a0_0, .string a0_1, .int .u8 a0_2, .int .i64 a0_3, .int .i64 a0_4, .int .i64 a0_5, .int .i64 a0_6, .string a0_7] 23))
    have HXn_0 := Aside0.mk (heap_alloc_new w (.cells #[.string a0_0, .string a0_1, .int .u8 a0_2, .int .i64 a0_3, .int .i64 a0_4, .int .i64 a0_5, .int .i64 a0_6, .string a0_7] 23))
    go_enter Try.func8, Try.ntmps8
    go_wp2_with (first | (go_at_call 10; refine (hup _).mono ?_; rintro e w1 ⟨rfl, hb⟩; have HB1 := Aside0.mk (below_step (by repeat (first | exact HB0.out | apply below_alloc | apply pw_below_drewN | apply below_drew1)) hb); have HXn_1 := Aside0.mk (blk_below (by repeat (first | exact HXn_0.out | apply blk_alloc | apply blk_drewN | apply blk_drew)) hb); clear hb; obtain ⟨zn0_1, zn1_1, zn2_1, zn3_1, zn4_1, zn5_1, zn6_1, zn7_1⟩ := cells8 HXn_1.out) | (go_at_call 11; refine (hfew _).mono ?_; rintro e w2 ⟨rfl, hb⟩; have HB2 := Aside0.mk (below_step (by repeat (first | exact HB1.out | apply below_alloc | apply pw_below_drewN | apply below_drew1)) hb); have HXn_2 := Aside0.mk (blk_below (by repeat (first | exact HXn_1.out | apply blk_alloc | apply blk_drewN | apply blk_drew)) hb); clear hb; obtain ⟨zn0_2, zn1_2, zn2_2, zn3_2, zn4_2, zn5_2, zn6_2, zn7_2⟩ := cells8 HXn_2.out))
    go_ret
    exact ⟨rfl, (by repeat (first | exact HB2.out | apply pw_below_drewN | apply below_drew1))⟩
  have e1 : decide ((60 : Int) < (l1.length : Int)) = false := decide_eq_false (by omega)
  have e1n : decide (60 < l1.length) = false := decide_eq_false h60
  have hput : ∀ W, Calls Try.prog 13 #[.agg #[.string a0_0, .string a0_1, .int .u8 a0_2, .int .i64 a0_3, .int .i64 a0_4, .int .i64 a0_5, .int .i64 a0_6, .string a0_7], .int .i64 x0] W fun e w' => ∃ A c, e = .returned (.tuple #[.slice A (contPutB ⟨a0_0, a0_1, a0_2, a0_3, a0_4, a0_5, a0_6, a0_7⟩ x0).length c, .bool (contMayB ⟨a0_0, a0_1, a0_2, a0_3, a0_4, a0_5, a0_6, a0_7⟩ x0)]) ∧ Aside0 (Kd.C kRow w' A (contPutB ⟨a0_0, a0_1, a0_2, a0_3, a0_4, a0_5, a0_6, a0_7⟩ x0).length (contPutB ⟨a0_0, a0_1, a0_2, a0_3, a0_4, a0_5, a0_6, a0_7⟩ x0)) ∧ Aside0 ((contPutB ⟨a0_0, a0_1, a0_2, a0_3, a0_4, a0_5, a0_6, a0_7⟩ x0).length ≤ c) ∧ Below W.heap.size W w' := fun W => cont_Put.told ⟨a0_0, a0_1, a0_2, a0_3, a0_4, a0_5, a0_6, a0_7⟩ (Nat.le_trans hz0 (by decide)) (Nat.le_trans hz1 (by decide)) x0 W
  have hmany : ∀ W, Calls Try.prog 20 #[.agg #[.string a0_0, .string a0_1, .int .u8 a0_2, .int .i64 a0_3, .int .i64 a0_4, .int .i64 a0_5, .int .i64 a0_6, .string a0_7]] W fun e w' => e = .returned (.int .i64 (contManyB ⟨a0_0, a0_1, a0_2, a0_3, a0_4, a0_5, a0_6, a0_7⟩)) ∧ Below W.heap.size W w' := fun W => cont_Many.calls _ _ _ _ _ _ _ _ _ W (many15_f (n := ⟨a0_0, a0_1, a0_2, a0_3, a0_4, a0_5, a0_6, a0_7⟩) (Nat.le_trans hz0 (by decide)) (Nat.le_trans hz1 (by decide)))
  have hmay : ∀ W, Calls Try.prog 19 #[.agg #[.string a0_0, .string a0_1, .int .u8 a0_2, .int .i64 a0_3, .int .i64 a0_4, .int .i64 a0_5, .int .i64 a0_6, .string a0_7], .int .i64 x0] W fun e w' => e = .returned (.bool (contMayB ⟨a0_0, a0_1, a0_2, a0_3, a0_4, a0_5, a0_6, a0_7⟩ x0)) ∧ Below W.heap.size W w' := fun W => cont_May.calls _ _ _ _ _ _ _ _ _ _ W (may15_f (n := ⟨a0_0, a0_1, a0_2, a0_3, a0_4, a0_5, a0_6, a0_7⟩) (Nat.le_trans hz0 (by decide)) (Nat.le_trans hz1 (by decide)) x0)
  clear hn hz0 hz1 hz7
  cases hm : contMayB ⟨a0_0, a0_1, a0_2, a0_3, a0_4, a0_5, a0_6, a0_7⟩ x0 with
  | false =>
    have hL : contPutB ⟨a0_0, a0_1, a0_2, a0_3, a0_4, a0_5, a0_6, a0_7⟩ x0 = [] := by unfold contPutB; rw [hm]; rfl
    rw [hm] at hput hmay
    rw [hL] at hput
    clear hm hL hmany hr1
    have HB0 := Aside0.mk (Below.refl w.heap.size w)
    have HB0 := Aside0.mk (below_alloc HB0.out (.cells #[.string a0_0, .string a0_1, .int .u8 a0_2, .int .i64 a0_3, .int .i64 a0_4, .int .i64 a0_5, .int .i64 a0_6, .string a0_7] 23))
    have HXn_0 := Aside0.mk (heap_alloc_new w (.cells #[.string a0_0, .string a0_1, .int .u8 a0_2, .int .i64 a0_3, .int .i64 a0_4, .int .i64 a0_5, .int .i64 a0_6, .string a0_7] 23))
    go_enter Try.func8, Try.ntmps8
    go_wp2_with (first | (go_at_call 10; refine (hup _).mono ?_; rintro e w1 ⟨rfl, hb⟩; have HB1 := Aside0.mk (below_step (by repeat (first | exact HB0.out | apply below_alloc | apply pw_below_drewN | apply below_drew1)) hb); have HXn_1 := Aside0.mk (blk_below (by repeat (first | exact HXn_0.out | apply blk_alloc | apply blk_drewN | apply blk_drew)) hb); clear hb; obtain ⟨zn0_1, zn1_1, zn2_1, zn3_1, zn4_1, zn5_1, zn6_1, zn7_1⟩ := cells8 HXn_1.out) | (go_at_call 11; refine (hfew _).mono ?_; rintro e w2 ⟨rfl, hb⟩; have HB2 := Aside0.mk (below_step (by repeat (first | exact HB1.out | apply below_alloc | apply pw_below_drewN | apply below_drew1)) hb); have HXn_2 := Aside0.mk (blk_below (by repeat (first | exact HXn_1.out | apply blk_alloc | apply blk_drewN | apply blk_drew)) hb); clear hb; obtain ⟨zn0_2, zn1_2, zn2_2, zn3_2, zn4_2, zn5_2, zn6_2, zn7_2⟩ := cells8 HXn_2.out) | (go_at_call 13; refine (hput _).mono ?_; rintro e w3 ⟨Aa, ca, rfl, HCa, HLa, hb⟩; have HB3 := Aside0.mk (below_step (by repeat (first | exact HB2.out | apply below_alloc | apply pw_below_drewN | apply below_drew1)) hb); have HXn_3 := Aside0.mk (blk_below (by repeat (first | exact HXn_2.out | apply blk_alloc | apply blk_drewN | apply blk_drew)) hb); clear hb; obtain ⟨zn0_3, zn1_3, zn2_3, zn3_3, zn4_3, zn5_3, zn6_3, zn7_3⟩ := cells8 HXn_3.out) | (go_at_call 19; refine (hmay _).mono ?_; rintro e w4 ⟨rfl, hb⟩; have HB4 := Aside0.mk (below_step (by repeat (first | exact HB3.out | apply below_alloc | apply pw_below_drewN | apply below_drew1)) hb); have HXn_4 := Aside0.mk (blk_below (by repeat (first | exact HXn_3.out | apply blk_alloc | apply blk_drewN | apply blk_drew)) hb); clear hb; obtain ⟨zn0_4, zn1_4, zn2_4, zn3_4, zn4_4, zn5_4, zn6_4, zn7_4⟩ := cells8 HXn_4.out))
    go_ret
    exact ⟨by simp, HB4.out⟩
  | true =>
    obtain ⟨⟨hk, ho⟩, g0, g1, g2⟩ := contMayB_iff.1 hm
    simp only at hk
    subst hk
    have hf := oneB_facts ho
    have hlk : a0_1 = ⟨#[]⟩ := file_link hf rfl
    have hL : contPutB ⟨a0_0, a0_1, 48, a0_3, a0_4, a0_5, a0_6, a0_7⟩ x0 = contB ⟨a0_0, a0_1, 48, a0_3, a0_4, a0_5, a0_6, a0_7⟩ x0 (a0_7.size : Int) := by unfold contPutB; rw [if_pos hm]
    have hlen := contB_length hf x0 (a0_7.size : Int)
    have hby := contB_bytes hf x0 (a0_7.size : Int)
    have h512 := contB_512 hf g0 (Int.le_of_lt g1) (show (a0_7.size : Int) ≤ 4000 by have : a0_7.size ≤ 4000 := hf.data; omega)
    have hgp := contGet_put hf rfl g0 g1 g2 l1
    have hmv : contManyB ⟨a0_0, a0_1, 48, a0_3, a0_4, a0_5, a0_6, a0_7⟩ = (if 100 < a0_0.size then 3 else 1) := by unfold contManyB; rw [if_pos (fileB_iff.2 ⟨rfl, ho⟩)]
    simp only at hgp hlen
    rw [← hL] at hlen hby h512 hgp
    rw [hm] at hput
    generalize contPutB ⟨a0_0, a0_1, 48, a0_3, a0_4, a0_5, a0_6, a0_7⟩ x0 = L at *
    obtain ⟨nL, hnL⟩ : ∃ n, L.length = n := ⟨_, rfl⟩
    rw [hnL] at hgp hlen
    have hmv2 : contManyB ⟨a0_0, a0_1, 48, a0_3, a0_4, a0_5, a0_6, a0_7⟩ = (nL : Int) := by rw [hmv, hlen]; split <;> rfl
    have hn3 : nL ≤ 3 := by rw [hlen]; split <;> omega
    rw [hmv2] at hmany
    have hbok : blocksOk L = true := blocksOk_of h512
    obtain ⟨m5, hm5⟩ : ∃ m, (L ++ l1).length = m := ⟨_, rfl⟩
    have hget : ∀ (W : World) (A : Option Addr) (c : Nat), Kd.C kRow W A (L ++ l1).length (L ++ l1) → (L ++ l1).length ≤ c → Calls Try.prog 15 #[.slice A m5 c] W fun e w' => e = .returned (.tuple #[.agg #[.string a0_0, .string ⟨#[]⟩, .int .u8 48, .int .i64 a0_3, .int .i64 a0_4, .int .i64 a0_5, .int .i64 a0_6, .string ⟨#[]⟩], .int .i64 x0, .int .i64 (a0_7.size : Int), .int .i64 (nL : Int), .bool true]) ∧ Below W.heap.size W w' := fun W A c hC hc => by
      have h_ := cont_Get.at_ A c (L ++ l1) W hC hc (fun x hx => by
        rcases List.mem_append.1 hx with h1 | h1
        · exact hby x h1
        · exact hy1 x h1) (by rw [List.length_append]; omega)
      rw [hgp, hm5] at h_
      exact h_
    have hput : ∀ W, Calls Try.prog 13 #[.agg #[.string a0_0, .string a0_1, .int .u8 48, .int .i64 a0_3, .int .i64 a0_4, .int .i64 a0_5, .int .i64 a0_6, .string a0_7], .int .i64 x0] W fun e w' => ∃ A c, e = .returned (.tuple #[.slice A nL c, .bool true]) ∧ Aside0 (Kd.C kRow w' A L.length L) ∧ Aside0 (L.length ≤ c) ∧ Below W.heap.size W w' := fun W => (hput W).mono (by
      rintro e w' ⟨A, c, rfl, h1, h2, hB⟩
      exact ⟨A, c, by rw [hnL], h1, h2, hB⟩)
    have HR1 := Aside0.mk hr1
    have HNL := Aside0.mk hnL
    have HBK := Aside0.mk hbok
    clear hm ho g0 g1 g2 hf hL hlen hby h512 hgp hmv hmv2 hnL hmay hbok hy1 hr1
    subst hlk
    have HB0 := Aside0.mk (Below.refl w.heap.size w)
    have HB0 := Aside0.mk (below_alloc HB0.out (.cells #[.string a0_0, .string ⟨#[]⟩, .int .u8 48, .int .i64 a0_3, .int .i64 a0_4, .int .i64 a0_5, .int .i64 a0_6, .string a0_7] 23))
    have HXn_0 := Aside0.mk (heap_alloc_new w (.cells #[.string a0_0, .string ⟨#[]⟩, .int .u8 48, .int .i64 a0_3, .int .i64 a0_4, .int .i64 a0_5, .int .i64 a0_6, .string a0_7] 23))
    go_enter Try.func8, Try.ntmps8
    go_upto_region 8 with (first | (go_at_call 10; refine (hup _).mono ?_; rintro e w1 ⟨rfl, hb⟩; have HB1 := Aside0.mk (below_step (by repeat (first | exact HB0.out | apply below_alloc | apply pw_below_drewN | apply below_drew1)) hb); have HXn_1 := Aside0.mk (blk_below (by repeat (first | exact HXn_0.out | apply blk_alloc | apply blk_drewN | apply blk_drew)) hb); clear hb; obtain ⟨zn0_1, zn1_1, zn2_1, zn3_1, zn4_1, zn5_1, zn6_1, zn7_1⟩ := cells8 HXn_1.out) | (go_at_call 11; refine (hfew _).mono ?_; rintro e w2 ⟨rfl, hb⟩; have HB2 := Aside0.mk (below_step (by repeat (first | exact HB1.out | apply below_alloc | apply pw_below_drewN | apply below_drew1)) hb); have HXn_2 := Aside0.mk (blk_below (by repeat (first | exact HXn_1.out | apply blk_alloc | apply blk_drewN | apply blk_drew)) hb); clear hb; obtain ⟨zn0_2, zn1_2, zn2_2, zn3_2, zn4_2, zn5_2, zn6_2, zn7_2⟩ := cells8 HXn_2.out) | (go_at_call 13; refine (hput _).mono ?_; rintro e w3 ⟨Aa, ca, rfl, HCa, HLa, hb⟩; have HB3 := Aside0.mk (below_step (by repeat (first | exact HB2.out | apply below_alloc | apply pw_below_drewN | apply below_drew1)) hb); have HXn_3 := Aside0.mk (blk_below (by repeat (first | exact HXn_2.out | apply blk_alloc | apply blk_drewN | apply blk_drew)) hb); clear hb; obtain ⟨zn0_3, zn1_3, zn2_3, zn3_3, zn4_3, zn5_3, zn6_3, zn7_3⟩ := cells8 HXn_3.out))
    clear zn0_3 zn1_3 zn2_3 zn3_3 zn4_3 zn5_3 zn6_3 zn7_3
    obtain ⟨ts, hts, hft⟩ := rows_split HCa.out
    obtain ⟨us, hus, hfu⟩ := rows_split (Kd.C_below HR1.out HB3.out)
    rw [HNL.out] at hts
    have htl : ts.length = nL := hts.1
    have hul : us.length = l1.length := hus.1
    have hm5t : (ts ++ us).length = m5 := by rw [List.length_append, htl, hul, ← hm5, List.length_append, HNL.out]
    have HFT := Aside0.mk hft
    have HFU := Aside0.mk hfu
    have HTS := Aside0.mk hts
    have HUS := Aside0.mk hus
    have HM5 := Aside0.mk hm5
    have HM5T := Aside0.mk hm5t
    have hs4 : (0 + nL) * 24 ≤ 140737488355328 := by omega
    have hs5 : (ts.length + l1.length) * 24 ≤ 140737488355328 := by omega
    have HTL := Aside0.mk htl
    clear hft hfu hts hus hm5 hm5t hul htl
    go_upto_region 9 with (first | (at_builtin; refine Kd.R_append_row encT ((none, 0, 0) : Tr) (h1 := encT_one) (w0 := w3) w3.heap.size rfl _ (.tmp 50) 24 41 (.slice none 0 0) 24 rfl Try.underlying24 info41 rfl (by decide) _ [] ts Aa nL ca (fun _ => True) rfl rfl (fun _ _ => trivial) (Kd.R_nil kTr _ _ _ _) HTS.out (Below.refl _ _) (Nat.le_refl _) hs4 ?_; intro v1 w4 hO hB hg hat; obtain ⟨A4, c4, rfl⟩ := Kd.R_slice hO; simp only [List.nil_append] at hO; rw [HTL.out] at hO; simp only [List.nil_append]; rw [HTL.out]; have HO4 := Aside0.mk hO; have HBB4 := Aside0.mk hB; clear hO hB hg hat) | (at_builtin; refine Kd.R_append_row encT ((none, 0, 0) : Tr) (h1 := encT_one) (w0 := w3) w3.heap.size rfl (.tmp 51) (.tmp 52) 24 41 (.slice none 0 0) 24 rfl Try.underlying24 info41 rfl (by decide) _ ts us A1 l1.length c1 (fun _ => True) rfl rfl (fun _ _ => trivial) HO4.out (Kd.C_below HUS.out HBB4.out) HBB4.out HBB4.out.size hs5 ?_; intro v2 w5 hO hB hg hat; obtain ⟨A5, c5, rfl, hc5, hC5⟩ := Kd.R_reads hO; have hC5b := rows_join hC5 (forall_app (forall_below hB HFT.out) (forall_below hB HFU.out)); rw [HM5T.out, ← HM5.out] at hC5b; rw [HM5T.out, ← HM5.out] at hc5; rw [HM5T.out]; have HC5 := Aside0.mk hC5b; have HL5 := Aside0.mk hc5; have HBB5 := Aside0.mk hB; clear hO hB hg hat hC5 hC5b hc5) | (go_at_call 15; refine (hget _ _ _ HC5.out HL5.out).mono ?_; rintro e w6 ⟨rfl, hb⟩; have HB6 := Aside0.mk (below_alloc (below_step (below_step HB3.out HBB5.out) hb) (.cells #[.string a0_0, .string ⟨#[]⟩, .int .u8 48, .int .i64 a0_3, .int .i64 a0_4, .int .i64 a0_5, .int .i64 a0_6, .string ⟨#[]⟩] 23)); have HXn_6 := Aside0.mk (blk_alloc (blk_below (blk_below HXn_3.out HBB5.out) hb) (.cells #[.string a0_0, .string ⟨#[]⟩, .int .u8 48, .int .i64 a0_3, .int .i64 a0_4, .int .i64 a0_5, .int .i64 a0_6, .string ⟨#[]⟩] 23)); have HXm_6 := Aside0.mk (heap_alloc_new w6 (.cells #[.string a0_0, .string ⟨#[]⟩, .int .u8 48, .int .i64 a0_3, .int .i64 a0_4, .int .i64 a0_5, .int .i64 a0_6, .string ⟨#[]⟩] 23)); have HCw6 := Aside0.mk (Kd.C_below (Kd.C_below HCa.out HBB5.out) hb); have HLT6 := Aside0.mk (Nat.lt_of_lt_of_le (blk_lt (blk_below HXn_3.out HBB5.out)) hb.size); clear hb))
    have hlt6 : w.heap.size + 1 ≤ w6.heap.size := by
      have := HLT6.out
      omega
    obtain ⟨W6, hW6⟩ : ∃ W6, w6.alloc (.cells #[.string a0_0, .string ⟨#[]⟩, .int .u8 48, .int .i64 a0_3, .int .i64 a0_4, .int .i64 a0_5, .int .i64 a0_6, .string ⟨#[]⟩] 23) = W6 := ⟨_, rfl⟩
    have HBg6 := below_alloc (Below.refl w6.heap.size w6) (.cells #[.string a0_0, .string ⟨#[]⟩, .int .u8 48, .int .i64 a0_3, .int .i64 a0_4, .int .i64 a0_5, .int .i64 a0_6, .string ⟨#[]⟩] 23)
    rw [hW6] at HB6 HXn_6 HXm_6 HBg6 ⊢
    have hgw : w6.heap.size < W6.heap.size := blk_lt HXm_6.out
    clear hW6 HLT6 HO4 HC5 HL5 HBB4 HBB5 HTS HUS HFT HFU HB3 HXn_3 HCa hs4 hs5 HR1
    obtain ⟨zn0_6, zn1_6, zn2_6, zn3_6, zn4_6, zn5_6, zn6_6, zn7_6⟩ := cells8 HXn_6.out
    go_upto_region 10 with (fail)
    have HB7 := below_alloc HB6.out (.cells #[.string a0_0, .string ⟨#[]⟩, .int .u8 48, .int .i64 a0_3, .int .i64 a0_4, .int .i64 a0_5, .int .i64 a0_6, .string a0_7] 23)
    have HXn_7 := blk_alloc HXn_6.out (.cells #[.string a0_0, .string ⟨#[]⟩, .int .u8 48, .int .i64 a0_3, .int .i64 a0_4, .int .i64 a0_5, .int .i64 a0_6, .string a0_7] 23)
    have HXm_7 := blk_alloc HXm_6.out (.cells #[.string a0_0, .string ⟨#[]⟩, .int .u8 48, .int .i64 a0_3, .int .i64 a0_4, .int .i64 a0_5, .int .i64 a0_6, .string a0_7] 23)
    have HXw_7 := heap_alloc_new W6 (.cells #[.string a0_0, .string ⟨#[]⟩, .int .u8 48, .int .i64 a0_3, .int .i64 a0_4, .int .i64 a0_5, .int .i64 a0_6, .string a0_7] 23)
    have HBg7 := below_alloc HBg6 (.cells #[.string a0_0, .string ⟨#[]⟩, .int .u8 48, .int .i64 a0_3, .int .i64 a0_4, .int .i64 a0_5, .int .i64 a0_6, .string a0_7] 23)
    obtain ⟨W7, hW7⟩ : ∃ W7, W6.alloc (.cells #[.string a0_0, .string ⟨#[]⟩, .int .u8 48, .int .i64 a0_3, .int .i64 a0_4, .int .i64 a0_5, .int .i64 a0_6, .string a0_7] 23) = W7 := ⟨_, rfl⟩
    rw [hW7] at HB7 HXn_7 HXm_7 HXw_7 HBg7 ⊢
    have hgg := blk_lt HXn_6.out
    clear hW7 HB6 HXn_6 HXm_6 HBg6 zn0_6 zn1_6 zn2_6 zn3_6 zn4_6 zn5_6 zn6_6 zn7_6
    generalize W6.heap.size = g2 at *
    have y7 := blk_frozen HXw_7 7
    have x7 := (blk_cell HXw_7 7).trans (show _ = some (Value.string a0_7) from rfl)
    have HB8 := Aside0.mk (HB7.setCell (p := ⟨g2, 7, none⟩) (by show w.heap.size ≤ g2; omega) (.string ⟨#[]⟩))
    have HXn_8 := blk_far HXn_7 (p := ⟨g2, 7, none⟩) (by show w.heap.size ≠ g2; omega) (.string ⟨#[]⟩)
    have HXm_8 := blk_far HXm_7 (p := ⟨g2, 7, none⟩) (by show w6.heap.size ≠ g2; omega) (.string ⟨#[]⟩)
    have HXw_8 := blk_put HXw_7 7 (.string ⟨#[]⟩) (cs' := #[.string a0_0, .string ⟨#[]⟩, .int .u8 48, .int .i64 a0_3, .int .i64 a0_4, .int .i64 a0_5, .int .i64 a0_6, .string ⟨#[]⟩]) rfl
    have HCa8 := Kd.C_below HCw6.out (HBg7.setCell (p := ⟨g2, 7, none⟩) (by show w6.heap.size ≤ g2; omega) (.string ⟨#[]⟩))
    clear HBg7 HCw6 HB7 HXn_7 HXm_7 HXw_7
    go_upto_region 11 with (fail)
    obtain ⟨W8, hW8⟩ : ∃ W8, W7.setCell ⟨g2, 7, none⟩ (.string ⟨#[]⟩) = W8 := ⟨_, rfl⟩
    rw [hW8] at HB8 HXn_8 HXm_8 HXw_8 HCa8 ⊢
    clear hW8 y7 x7
    obtain ⟨n0, n1, n2, n3, n4, n5, n6, n7⟩ := cells8 HXn_8
    obtain ⟨m0, m1, m2, m3, m4, m5', m6, m7⟩ := cells8 HXm_8
    obtain ⟨p0, p1, p2, p3, p4, p5, p6, p7⟩ := cells8 HXw_8
    have HCa8 := Aside0.mk HCa8
    clear HXn_8 HXm_8 HXw_8
    have hbm : ∀ (W : World), Kd.C kRow W Aa L.length L → Calls Try.prog 23 #[.slice Aa nL ca] W fun e w' => e = .returned (.bool true) ∧ Drawn0 W w' := fun W hC => by
      have h_ := block_May.calls Aa ca L true W hC HLa.out (congrArg some HBK.out)
      rw [HNL.out] at h_
      exact h_

    have f1 : ((nL : Int) == (nL : Int)) = true := beq_self_eq_true _
    have f2 : (x0 == x0) = true := beq_self_eq_true _
    go_wp2_with (first | (go_at_call 20; refine (hmany _).mono ?_; rintro e w9 ⟨rfl, hb⟩; have HB9 := Aside0.mk (below_step HB8.out hb); have HCa9 := Aside0.mk (Kd.C_below HCa8.out hb); clear hb) | (go_at_call 23; refine (hbm _ HCa9.out).mono ?_; rintro e w10 ⟨rfl, ⟨⟨nd, rfl⟩⟩⟩))
    go_ret
    exact ⟨rfl, pw_below_drewN HB9.out nd⟩

end Go.Proofs.Ytekfgmpldgoglaa.X
