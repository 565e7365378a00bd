import Derived.Test.YtpedagpcblnnhaaGreatXK
import Derived.Test.YtpedagpcblnnhaaGreatYAll
import Derived.Test.YtpedagpcblnnhaaGreatXreelkeeperlaw05Few
namespace Go.Proofs.YtpedagpcblnnhaaGreat.X
open Go.RowKit Go.Proofs.YtpedagpcblnnhaaGreatW.PrintWords Go.Proofs.YtpedagpcblnnhaaGreatW.PrintLast Go.Proofs.YtpedagpcblnnhaaGreatW.PrintMore
attribute [local go_sem] max2_int min2_int max_two min_two
set_option linter.unusedVariables false
set_option linter.unusedSimpArgs false
section
open Go.Proofs.YtpedagpcblnnhaaGreatY
theorem list8 {α : Type} {l : List α} (h : l.length = 8) : ∃ a b c d e f g i, l = [a, b, c, d, e, f, g, i] := by
  match l, h with
  | [a, b, c, d, e, f, g, i], _ => exact ⟨a, b, c, d, e, f, g, i, rfl⟩
set_option maxRecDepth 100000 in
theorem opens_node : Opens Tryz.prog 41 k41 := by
  intro H enc w base sp held fuel cs x h
  obtain ⟨xs, n, _, _, hl, hlen, hf⟩ := DataW.trod_struct Tryz.underlying41 h
  obtain ⟨c0, c1, c2, c3, c4, c5, c6, c7, rfl⟩ := list8 (hl.trans (by kernel_rfl))
  obtain ⟨y0, y1, y2, y3, y4, y5, y6, y7, rfl⟩ := list8 hlen
  have u9 : Tryz.prog.cellsOf 9 = 1 := by kernel_rfl
  have u5 : Tryz.prog.cellsOf 5 = 1 := by kernel_rfl
  have u3 : Tryz.prog.cellsOf 3 = 1 := by kernel_rfl
  have h0 : DataW.trod enc Tryz.prog w base sp held n 9 (([c0, c1, c2, c3, c4, c5, c6, c7].drop 0).take (Tryz.prog.cellsOf 9)) = some y0 := hf 0 _ rfl
  rw [u9] at h0
  have h1 : DataW.trod enc Tryz.prog w base sp held n 9 (([c0, c1, c2, c3, c4, c5, c6, c7].drop 1).take (Tryz.prog.cellsOf 9)) = some y1 := hf 1 _ rfl
  rw [u9] at h1
  have h2 : DataW.trod enc Tryz.prog w base sp held n 5 (([c0, c1, c2, c3, c4, c5, c6, c7].drop 2).take (Tryz.prog.cellsOf 5)) = some y2 := hf 2 _ rfl
  rw [u5] at h2
  have h3 : DataW.trod enc Tryz.prog w base sp held n 3 (([c0, c1, c2, c3, c4, c5, c6, c7].drop 3).take (Tryz.prog.cellsOf 3)) = some y3 := hf 3 _ rfl
  rw [u3] at h3
  have h4 : DataW.trod enc Tryz.prog w base sp held n 3 (([c0, c1, c2, c3, c4, c5, c6, c7].drop 4).take (Tryz.prog.cellsOf 3)) = some y4 := hf 4 _ rfl
  rw [u3] at h4
  have h5 : DataW.trod enc Tryz.prog w base sp held n 3 (([c0, c1, c2, c3, c4, c5, c6, c7].drop 5).take (Tryz.prog.cellsOf 3)) = some y5 := hf 5 _ rfl
  rw [u3] at h5
  have h6 : DataW.trod enc Tryz.prog w base sp held n 3 (([c0, c1, c2, c3, c4, c5, c6, c7].drop 6).take (Tryz.prog.cellsOf 3)) = some y6 := hf 6 _ rfl
  rw [u3] at h6
  have h7 : DataW.trod enc Tryz.prog w base sp held n 9 (([c0, c1, c2, c3, c4, c5, c6, c7].drop 7).take (Tryz.prog.cellsOf 9)) = some y7 := hf 7 _ rfl
  rw [u9] at h7
  obtain ⟨s0, e0, _⟩ := DataW.trod_string Tryz.underlying9 h0
  obtain ⟨s1, e1, _⟩ := DataW.trod_string Tryz.underlying9 h1
  obtain ⟨s2, e2, _⟩ := DataW.trod_int Tryz.underlying5 h2
  obtain ⟨s3, e3, _⟩ := DataW.trod_int Tryz.underlying3 h3
  obtain ⟨s4, e4, _⟩ := DataW.trod_int Tryz.underlying3 h4
  obtain ⟨s5, e5, _⟩ := DataW.trod_int Tryz.underlying3 h5
  obtain ⟨s6, e6, _⟩ := DataW.trod_int Tryz.underlying3 h6
  obtain ⟨s7, e7, _⟩ := DataW.trod_string Tryz.underlying9 h7
  simp at e0 e1 e2 e3 e4 e5 e6 e7
  subst e0 e1 e2 e3 e4 e5 e6 e7
  exact ⟨⟨s0, s1, s2, s3, s4, s5, s6, s7⟩, k41_mk w _⟩
end
section
theorem eqA41 (d : Nat) (w : World) (x0 y0 : ByteArray) (x1 y1 : ByteArray) (x2 y2 : Int) (x3 y3 : Int) (x4 y4 : Int) (x5 y5 : Int) (x6 y6 : Int) (x7 y7 : ByteArray) :
    (Op.equalIn (d + 2) 41 (.agg #[.string x0, .string x1, .int .u8 x2, .int .i64 x3, .int .i64 x4, .int .i64 x5, .int .i64 x6, .string x7]) (.agg #[.string y0, .string y1, .int .u8 y2, .int .i64 y3, .int .i64 y4, .int .i64 y5, .int .i64 y6, .string y7])).run Tryz.prog w = .ok (x0.toList == y0.toList && (x1.toList == y1.toList && (x2 == y2 && (x3 == y3 && (x4 == y4 && (x5 == y5 && (x6 == y6 && (x7.toList == y7.toList)))))))) w := by
  refine eqA_of Tryz.underlying41 (by kernel_rfl) ?_
  refine eqf_cons (by rfl) (by go_simp; rfl) (by go_simp; rfl) (by go_simp) ?_
  refine eqf_cons (by rfl) (by go_simp; rfl) (by go_simp; rfl) (by go_simp) ?_
  refine eqf_cons (by rfl) (by go_simp; rfl) (by go_simp; rfl) (by go_simp) ?_
  refine eqf_cons (by rfl) (by go_simp; rfl) (by go_simp; rfl) (by go_simp) ?_
  refine eqf_cons (by rfl) (by go_simp; rfl) (by go_simp; rfl) (by go_simp) ?_
  refine eqf_cons (by rfl) (by go_simp; rfl) (by go_simp; rfl) (by go_simp) ?_
  refine eqf_cons (by rfl) (by go_simp; rfl) (by go_simp; rfl) (by go_simp) ?_
  exact eqf_last (by rfl) (by go_simp; rfl) (by go_simp; rfl) (by go_simp)
end
section
def parse_in.f (a0 : Int) (a1 : Int) (a2 : Int) : Option (Bool) := if a0 ≥ a1 then (some (decide (a0 ≤ a2))) else (some false)
set_option maxHeartbeats 8000000 in
set_option maxRecDepth 100000 in
theorem parse_in.calls (a0 : Int) (a1 : Int) (a2 : Int) (r : Bool) (w : World) (h : parse_in.f a0 a1 a2 = some r) :
    Calls Tryz.prog 58 #[.int .i64 a0, .int .i64 a1, .int .i64 a2] w fun e w' => e = .returned (.bool r) ∧ Drawn0 w w' := by
  have H : (if a0 ≥ a1 then (some (decide (a0 ≤ a2))) else (some false)) = some r := h
  clear h
  by_cases c4 : a0 ≥ a1
  · rw [if_pos c4] at H
    have c4b0 : decide (a1 ≤ a0) = true := decide_eq_true c4
    clear c4
    obtain rfl := Option.some.inj H
    go_enter Tryz.func58, Tryz.ntmps58
    go_wp2
    go_ret
    exact ⟨by first | rfl | (simp; done) | (simp [*]; done), by repeat (first | exact Drawn0.refl _ | apply Drawn0.step)⟩
  · rw [if_neg c4] at H
    have c4b0 : decide (a1 ≤ a0) = false := decide_eq_false c4
    clear c4
    obtain rfl := Option.some.inj H
    go_enter Tryz.func58, Tryz.ntmps58
    go_wp2
    go_ret
    exact ⟨by first | rfl | (simp; done) | (simp [*]; done), by repeat (first | exact Drawn0.refl _ | apply Drawn0.step)⟩
end
section
open Go.Proofs.YtpedagpcblnnhaaGreatY
abbrev kRw : Kd (List Int) := Kd.slice 5 (Kd.int .u8)
abbrev Tr := Option Addr × Nat × Nat
def encT (t : Tr) : Value := .slice t.1 t.2.1 t.2.2
theorem encT_one : ∀ t : Tr, (encT t).oneCell' = true := fun _ => rfl
abbrev kTr : Kd Tr := Kd.scalar encT encT_one
def InT (w : World) (t : Tr) (x : List Int) : Prop := t.2.1 = x.length ∧ x.length ≤ t.2.2 ∧ (Kd.int .u8).C w t.1 x.length x
theorem InT.below {w w' : World} {t : Tr} {x : List Int} (h : InT w t x) (b : Below w.heap.size w w') : InT w' t x := ⟨h.1, h.2.1, Kd.C_below h.2.2 b⟩
inductive AllT (w : World) : List Tr → List (List Int) → Prop where
  | nil : AllT w [] []
  | cons {t : Tr} {x : List Int} {ts : List Tr} {xs : List (List Int)} : InT w t x → AllT w ts xs → AllT w (t :: ts) (x :: xs)
theorem AllT.length_eq {w : World} : ∀ {ts : List Tr} {xs : List (List Int)}, AllT w ts xs → ts.length = xs.length
  | _, _, .nil => rfl
  | _, _, .cons _ t => by rw [List.length_cons, List.length_cons, AllT.length_eq t]
theorem AllT.at_ {w : World} : ∀ {ts : List Tr} {xs : List (List Int)}, AllT w ts xs → ∀ (j : Nat) (t : Tr) (x : List Int), ts[j]? = some t → xs[j]? = some x → InT w t x
  | _, _, .nil, j, t, x, h, _ => by simp at h
  | _, _, .cons i _, 0, t, x, h, k => by
    simp only [List.getElem?_cons_zero, Option.some.injEq] at h k
    subst h k
    exact i
  | _, _, .cons _ r, j + 1, t, x, h, k => by
    simp only [List.getElem?_cons_succ] at h k
    exact AllT.at_ r j t x h k
theorem rows_split {w : World} {A : Option Addr} {n : Nat} {xs : List (List Int)} (h : Kd.C kRw w A n xs) : ∃ ts : List Tr, Kd.C kTr w A n ts ∧ AllT w ts xs := by
  obtain ⟨hl, hm, hr⟩ := h
  rcases Nat.eq_zero_or_pos n with e | hp
  · subst e
    obtain rfl : xs = [] := List.eq_nil_of_length_eq_zero hl
    exact ⟨[], ⟨rfl, hm, fun h => absurd h (by simp)⟩, .nil⟩
  · obtain ⟨ad, rfl, hc⟩ := hr hp
    have key : ∀ (ys : List (List Int)) (i : Nat), (∀ j x, ys[j]? = some x → xs[i + j]? = some x) → ∃ ts : List Tr, AllT w ts ys ∧ ∀ j t, ts[j]? = some t → w.cell? (ad.add (i + j)) = some (encT t) := by
      intro ys
      induction ys with
      | nil => exact fun i _ => ⟨[], .nil, fun j t ht => by simp at ht⟩
      | cons x ys ih =>
        intro i hx
        obtain ⟨ts, h1, h2⟩ := ih (i + 1) (fun j y hy => by have := hx (j + 1) y (by simpa using hy); rwa [show i + 1 + j = i + (j + 1) by omega])
        obtain ⟨c, hcl, ⟨A1, c1, rfl, l1, g1⟩, hcell⟩ := hc i x (by have := hx 0 x rfl; rwa [Nat.add_zero] at this)
        refine ⟨(A1, x.length, c1) :: ts, .cons ⟨rfl, l1, g1⟩ h1, fun j t ht => ?_⟩
        cases j with
        | zero =>
          obtain rfl : (A1, x.length, c1) = t := by simpa using ht
          have h_ : w.cell? (ad.add (i * 1 + 0)) = some (.slice A1 x.length c1) := hcell 0 _ rfl
          rw [show i * 1 + 0 = i + 0 by omega] at h_
          exact h_
        | succ j =>
          have := h2 j t (by simpa using ht)
          rwa [show i + 1 + j = i + (j + 1) by omega] at this
    obtain ⟨ts, h1, h2⟩ := key xs 0 (fun j x hx => by rwa [Nat.zero_add])
    have hlen : ts.length = xs.length := h1.length_eq
    refine ⟨ts, ⟨by omega, hm, fun _ => ⟨ad, rfl, fun j t ht => ⟨[encT t], rfl, rfl, fun i u hu => ?_⟩⟩⟩, h1⟩
    cases i with
    | zero =>
      obtain rfl : encT t = u := by simpa using hu
      have h_ := h2 j t ht
      show w.cell? (ad.add (j * 1 + 0)) = _
      rwa [show j * 1 + 0 = 0 + j by omega]
    | succ i => simp at hu
theorem rows_join {w : World} {A : Option Addr} {n : Nat} {ts : List Tr} {xs : List (List Int)} (h : Kd.C kTr w A n ts) (hf : AllT w ts xs) : Kd.C kRw w A n xs := by
  obtain ⟨hl, hm, hr⟩ := h
  have hlen : ts.length = xs.length := hf.length_eq
  refine ⟨by omega, hm, fun hp => ?_⟩
  obtain ⟨ad, e, hc⟩ := hr hp
  refine ⟨ad, e, fun j x hx => ?_⟩
  have hj : j < xs.length := (List.getElem?_eq_some_iff.1 hx).1
  obtain ⟨c, hcl, hK, hcell⟩ := hc j _ (List.getElem?_eq_getElem (show j < ts.length by omega))
  have hx2 : xs[j] = x := (List.getElem?_eq_some_iff.1 hx).2
  have hin := hf.at_ j _ x (List.getElem?_eq_getElem (show j < ts.length by omega)) hx
  obtain ⟨i1, i2, i3⟩ := hin
  have hKc : c = [encT ts[j]] := hK
  refine ⟨c, hcl, ⟨ts[j].1, ts[j].2.2, ?_, i2, i3⟩, hcell⟩
  rw [hKc]
  unfold encT
  rw [i1]
theorem forall_below {w w' : World} (b : Below w.heap.size w w') : ∀ {ts : List Tr} {xs : List (List Int)}, AllT w ts xs → AllT w' ts xs
  | _, _, .nil => .nil
  | _, _, .cons h t => .cons (h.below b) (forall_below b t)
theorem forall_app {w : World} : ∀ {a b : List Tr} {x y : List (List Int)}, AllT w a x → AllT w b y → AllT w (a ++ b) (x ++ y)
  | _, _, _, _, .nil, k => k
  | _, _, _, _, .cons h t, k => .cons h (forall_app t k)
end
end Go.Proofs.YtpedagpcblnnhaaGreat.X
