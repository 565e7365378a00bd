import Derived.Test.YtpedagpcblnnhaaGreatXK
import Derived.Test.YtpedagpcblnnhaaGreatXGpj
import Derived.Test.YtpedagpcblnnhaaGreatYAll
import Derived.Test.YtpedagpcblnnhaaGreatPGA
import Derived.Test.YtpedagpcblnnhaaGreatPGE
import Derived.Test.YtpedagpcblnnhaaGreatP04g
import Derived.Test.YtpedagpcblnnhaaGreatP09a
import Derived.Test.YtpedagpcblnnhaaGreatP09s
import Derived.Test.YtpedagpcblnnhaaGreatP10a
import Derived.Test.YtpedagpcblnnhaaGreatP06o
namespace Go.Proofs.YtpedagpcblnnhaaGreat.X
open Go.RowKit Go.Proofs.YtpedagpcblnnhaaGreatW.PrintWords Go.Proofs.YtpedagpcblnnhaaGreatW.PrintLast Go.Proofs.YtpedagpcblnnhaaGreatW.PrintMore
attribute [local go_sem] max2_int min2_int max_two min_two
set_option linter.unusedVariables false
set_option linter.unusedSimpArgs false
section
open Go.Proofs.YtpedagpcblnnhaaGreatY
theorem empty_add (d : ByteArray) : (⟨#[]⟩ : ByteArray) ++ d = d := ByteArray.empty_append
def SmallE (v : Evt) : Prop := v.f1.f7.size ≤ 100000 ∧ v.f2.size ≤ 100000
theorem over_small : SmallE evOver := ⟨by decide, by decide⟩
theorem stepP_small {s : Pst} {x : List Int} {l : List Evt} {t : Pst} (e : stepP s x = .ok (t, l)) : ∀ v ∈ l, SmallE v := by
  have dat : ∀ m : Nat, m ≤ 512 → SmallE ⟨1, nd00, strOfNums (x.take m)⟩ := fun m hm => ⟨by show nd00.f7.size ≤ 100000; decide, by show (strOfNums (x.take m)).size ≤ 100000; rw [strOfNums_size, List.length_take]; omega⟩
  have nod : ∀ h, SmallE ⟨0, nodeOf s h, ⟨#[]⟩⟩ := fun h => ⟨by show (⟨#[]⟩ : ByteArray).size ≤ 100000; decide, by show (⟨#[]⟩ : ByteArray).size ≤ 100000; decide⟩
  have txt : ∀ {h own ph}, textP s h own ph [] = .ok (t, l) → ∀ v ∈ l, SmallE v := fun e => by
    rw [textP_told e]; intro v hv; cases hv
  have nam : nameP s x [] = .ok (t, l) → ∀ v ∈ l, SmallE v := fun e => by
    unfold nameP at e
    split at e
    · split at e
      · cases e; intro v hv; cases hv
      · cases e; intro v hv; cases hv
    · cases e
  unfold stepP at e
  split at e
  · rename_i hq
    rw [Bool.and_eq_true, decide_eq_true_eq] at hq
    split at e
    · unfold headP at e
      split at e
      · split at e
        · cases e; intro v hv; cases hv
        · cases e
      · split at e
        · split at e
          · exact txt e
          · split at e
            · exact txt e
            · split at e
              · cases e
              · unfold nodeP at e
                generalize (if (headGet x).1.f8 = 48 then (4000 : Int) else 0) = MX at e
                split at e
                · split at e
                  · split at e
                    · split at e
                      · split at e
                        · cases e
                          intro v hv
                          simp only [List.nil_append, List.cons_append, List.mem_cons, List.not_mem_nil, or_false] at hv
                          rcases hv with rfl | rfl
                          · exact nod _
                          · exact over_small
                        · cases e
                          intro v hv
                          simp only [List.nil_append, List.mem_cons, List.not_mem_nil, or_false] at hv
                          subst hv
                          exact nod _
                      · cases e
                    · cases e
                  · cases e
                · cases e
        · cases e
    · split at e
      · exact nam e
      · split at e
        · exact nam e
        · split at e
          · unfold dataP at e
            split at e
            · rename_i h5
              cases e
              intro v hv
              simp only [List.nil_append, List.cons_append, List.mem_cons, List.not_mem_nil, or_false] at hv
              rcases hv with rfl | rfl
              · exact dat _ (by omega)
              · exact over_small
            · cases e
              intro v hv
              simp only [List.nil_append, List.mem_cons, List.not_mem_nil, or_false] at hv
              subst hv
              exact dat _ (by decide)
          · split at e
            · unfold zeroP at e
              split at e
              · cases e; intro v hv; cases hv
              · cases e
            · cases e
  · cases e
theorem runP_small : ∀ (L : List (List Int)) (s : Pst) (all : List Evt) (i : Nat), (∀ v ∈ all, SmallE v) → ∀ v ∈ (runP s L all i).2.1, SmallE v
  | [], s, all, i, h => h
  | x :: L, s, all, i, h => by
    have ht : ∀ v ∈ (stepR s x).2.1, SmallE v := by
      unfold stepR
      cases e : stepP s x with
      | error k => intro v hv; cases hv
      | ok r => obtain ⟨t, l⟩ := r; exact stepP_small e
    have hall : ∀ v ∈ all ++ (stepR s x).2.1, SmallE v := fun v hv => (List.mem_append.1 hv).elim (h v) (ht v)
    unfold runP
    split
    · split
      · exact hall
      · exact runP_small L _ _ _ hall
    · exact h
theorem run_small (L : List (List Int)) : ∀ v ∈ (runR st0 L).2.1, v.f1.f7.size ≤ 100000 ∧ v.f2.size ≤ 100000 := runP_small L st0 [] 0 (fun v hv => nomatch hv)
theorem run_count (L : List (List Int)) : (runR st0 L).2.1.length ≤ 2 * (runR st0 L).2.2.1 ∧ (runR st0 L).2.2.1 ≤ L.length ∧ ((runR st0 L).2.2.2 = 0 ∨ (runR st0 L).2.2.1 < L.length) := by
  have h := runP_told L st0 [] 0 st0_ok (fun v hv => nomatch hv) (by decide)
  have e : runP st0 L [] 0 = runR st0 L := rfl
  rw [e] at h
  have h3 := h.2.2.2.1
  have h4 := h.2.2.2.2
  exact ⟨h.2.1, by omega, by omega⟩
end
section
open Go.Proofs.YtpedagpcblnnhaaGreatY
def OpensP (P : Program) (t : TypeId) {α : Type} (kd : Kd α) (p : α → Prop) : Prop :=
  ∀ (H : Type) (enc : TypeId × Value → H) (w : World) (base : Nat) (sp : Nat → Bool) (held : Bool) (fuel : Nat) (cs : List Value) (x : DataW H × List MemPlace), DataW.trod enc P w base sp held fuel t cs = some x → ∃ a : α, kd.K w a cs ∧ p a
theorem opens_rowP {P : Program} {t e : TypeId} {α : Type} {kd : Kd α} {pr : α → Prop} (ht : P.underlying t = some (.slice e)) (hs : P.cellsOf e = kd.sz) (ho : OpensP P e kd pr)
    {H : Type} {enc : TypeId × Value → H} {w : World} {base : Nat} {sp : Nat → Bool} {held : Bool} {fuel : Nat} {cs : List Value} {x : DataW H × List MemPlace} (h : DataW.trod enc P w base sp held fuel t cs = some x) :
    ∃ (A : Option Addr) (c : Nat) (xs : List α), cs = [.slice A xs.length c] ∧ xs.length ≤ c ∧ kd.C w A xs.length xs ∧ ∀ x ∈ xs, pr x := by
  rcases Go.Deep.open_slice ht h with ⟨rfl, _⟩ | ⟨a, len, cap, m, n, D, Pl, rfl, _, hl, hc, hm, _, hel⟩
  · exact ⟨none, 0, [], rfl, Nat.le_refl _, ⟨rfl, Nat.zero_le _, fun h => absurd h (by simp)⟩, fun x hx => by cases hx⟩
  · have hlm : len ≤ m := by rw [hm]; split <;> omega
    have hone : ∀ i : Nat, i < len → ∃ (x : α) (cs' : List Value), (kd.K w x cs' ∧ pr x) ∧ w.cells? base (a.add (i * P.cellsOf e)) (P.cellsOf e) = some cs' := by
      intro i hi
      obtain ⟨cs', h1, h2⟩ := hel i (by omega)
      obtain ⟨x, hx⟩ := ho _ _ _ _ _ _ _ _ _ h2
      exact ⟨x, cs', hx, h1⟩
    have hall : ∀ k : Nat, k ≤ len → ∃ xs : List α, xs.length = k ∧ ∀ (j : Nat) (p : α), xs[j]? = some p → ∃ cs', (kd.K w p cs' ∧ pr p) ∧ w.cells? base (a.add (j * P.cellsOf e)) (P.cellsOf e) = some cs' := by
      intro k
      induction k with
      | zero => exact fun _ => ⟨[], rfl, fun j p hp => by simp at hp⟩
      | succ k ih =>
        intro hk
        obtain ⟨xs, hl, hx⟩ := ih (by omega)
        obtain ⟨x, cs', h1, h2⟩ := hone k (by omega)
        refine ⟨xs ++ [x], by simp [hl], fun j p hp => ?_⟩
        by_cases hj : j < xs.length
        · rw [List.getElem?_append_left hj] at hp
          exact hx j p hp
        · have hjk : j = k := by
            have := (List.getElem?_eq_some_iff.1 hp).1
            simp at this
            omega
          subst hjk
          rw [List.getElem?_append_right (by omega), hl] at hp
          simp at hp
          subst hp
          exact ⟨cs', h1, h2⟩
    obtain ⟨xs, hl2, hx⟩ := hall len (Nat.le_refl _)
    subst hl2
    refine ⟨some a, cap, xs, rfl, hl, ⟨rfl, Nat.le_trans hl hc, fun _ => ⟨a, rfl, fun j p hp => ?_⟩⟩, fun x hx' => ?_⟩
    · obtain ⟨cs', ⟨h1, _⟩, h2⟩ := hx j p hp
      obtain ⟨_, h4, h5⟩ := World.cells?_some h2
      refine ⟨cs', h4.trans hs, h1, fun i u hu => ?_⟩
      have hi : i < P.cellsOf e := by rw [← h4]; exact (List.getElem?_eq_some_iff.1 hu).1
      have := h5 i hi
      rw [hu] at this
      rw [← this, ← hs]
      congr 1
      simp only [Addr.add]
      by_cases e1 : j * P.cellsOf e = 0 <;> by_cases e2 : i = 0 <;> simp [e1, e2, Nat.add_assoc]
    · obtain ⟨j, hj, rfl⟩ := List.mem_iff_getElem.1 hx'
      obtain ⟨_, ⟨_, hp⟩, _⟩ := hx j _ (List.getElem?_eq_getElem hj)
      exact hp
theorem opensP_int {P : Program} {t : TypeId} {k : IntKind} (ht : P.underlying t = some (.int k)) : OpensP P t (Kd.int k) (fun n => (Lit.int k n).wf = true) := by
  intro H enc w base sp held fuel cs x h
  obtain ⟨s, rfl, _, hw⟩ := DataW.trod_int ht h
  exact ⟨s, rfl, hw⟩
theorem opensP_slice {P : Program} {t e : TypeId} {α : Type} {kd : Kd α} {pr : α → Prop} (ht : P.underlying t = some (.slice e)) (hs : P.cellsOf e = kd.sz) (ho : OpensP P e kd pr) : OpensP P t (Kd.slice e kd) (fun xs => ∀ x ∈ xs, pr x) := by
  intro H enc w base sp held fuel cs x h
  obtain ⟨A, c, xs, rfl, h1, h2, h3⟩ := opens_rowP ht hs ho h
  exact ⟨xs, ⟨A, c, rfl, h1, h2⟩, h3⟩
set_option maxRecDepth 100000 in
theorem open_rows {H : Type} {enc : TypeId × Value → H} {w : World} {base : Nat} {sp : Nat → Bool} {held : Bool} {r : Reach} {b0 : Nat} {v : Value} {d : DataW H} {ps : List MemPlace} (hval : Value.okWide Tryz.prog w r b0 23 v) (h : DataW.Trod enc Tryz.prog w base sp held 23 v d ps) :
    ∃ A c xs, v = .slice A (List.length xs) c ∧ xs.length ≤ c ∧ (Kd.slice 5 (Kd.int .u8)).C w A xs.length xs ∧ ∀ x ∈ xs, ∀ y ∈ x, 0 ≤ y ∧ y ≤ 255 := by
  obtain ⟨a, len, cap, rfl⟩ := Go.WideShapes.okWide_slice Tryz.underlying23 hval
  obtain ⟨fuel, hf⟩ := h
  obtain ⟨A, c, xs, he, h1, h2, h3⟩ := opens_rowP Tryz.underlying23 (by kernel_rfl) (opensP_slice Tryz.underlying43 (by kernel_rfl) (opensP_int Tryz.underlying5)) hf
  simp [Value.cells] at he
  obtain ⟨rfl, rfl, rfl⟩ := he
  exact ⟨_, _, xs, rfl, h1, h2, fun x hx y hy => wf_u8 (h3 x hx y hy)⟩
end
section
attribute [local go_sem high] eqA41
def reelkeeperref06_Same.l0 : Nat → List (S41) → List (S41) → Int → Option (Bool)
  | 0, _, _, _ => none
  | k + 1, x0, x1, x5 => if x5 < (x0.length : Int) then (if 0 ≤ x5 then (if x5 < (x1.length : Int) then (if (!((((rd_T41 x0 x5).f0).toList) == (((rd_T41 x1 x5).f0).toList)) || (!((((rd_T41 x0 x5).f1).toList) == (((rd_T41 x1 x5).f1).toList)) || (!(((rd_T41 x0 x5).f2) == ((rd_T41 x1 x5).f2)) || (!(((rd_T41 x0 x5).f3) == ((rd_T41 x1 x5).f3)) || (!(((rd_T41 x0 x5).f4) == ((rd_T41 x1 x5).f4)) || (!(((rd_T41 x0 x5).f5) == ((rd_T41 x1 x5).f5)) || (!(((rd_T41 x0 x5).f6) == ((rd_T41 x1 x5).f6)) || (!((((rd_T41 x0 x5).f7).toList) == (((rd_T41 x1 x5).f7).toList)))))))))) = true then (some false) else (reelkeeperref06_Same.l0 k x0 x1 (wrap64 (x5 + 1)))) else (none)) else (none)) else (some true)
def reelkeeperref06_Same.f (k : Nat) (l0 : List (S41)) (l1 : List (S41)) : Option (Bool) := if (l0.length : Int) = (l1.length : Int) then (reelkeeperref06_Same.l0 k l0 l1 0) else (some false)
theorem reelkeeperref06_Same.mono_l : ∀ k, (∀ y0 y1 y2, LeO (reelkeeperref06_Same.l0 k y0 y1 y2) (reelkeeperref06_Same.l0 (k + 1) y0 y1 y2))
  | 0 => fun _ _ _ r h => by simp [reelkeeperref06_Same.l0] at h
  | k + 1 => by
    have ih0 := reelkeeperref06_Same.mono_l k
    · intro y0 y1 y2
      unfold reelkeeperref06_Same.l0
      repeat' first
      | (with_reducible exact ih0 _ _ _)
      | (with_reducible exact LeO.refl _)
      | (with_reducible exact LeO.none _)
      | (with_reducible refine LeO.ite ?_ ?_)
      | (with_reducible refine LeO.bind ?_ (fun _ => ?_))
      | exact ih0 _ _ _
      | exact LeO.none _
      | refine LeO.ite ?_ ?_
      | refine LeO.bind ?_ (fun _ => ?_)
theorem reelkeeperref06_Same.mono : ∀ a0 a1 k, LeO (reelkeeperref06_Same.f k a0 a1) (reelkeeperref06_Same.f (k + 1) a0 a1) := by
  intro a0 a1 k
  have ih0 := reelkeeperref06_Same.mono_l k
  unfold reelkeeperref06_Same.f
  repeat' first
      | (with_reducible exact ih0 _ _ _)
      | (with_reducible exact LeO.refl _)
      | (with_reducible exact LeO.none _)
      | (with_reducible refine LeO.ite ?_ ?_)
      | (with_reducible refine LeO.bind ?_ (fun _ => ?_))
      | exact ih0 _ _ _
      | exact LeO.none _
      | refine LeO.ite ?_ ?_
      | refine LeO.bind ?_ (fun _ => ?_)
set_option maxHeartbeats 8000000 in
set_option maxRecDepth 100000 in
theorem reelkeeperref06_Same.calls (k : Nat) (A0 : Option Addr) (c0 : Nat) (l0 : List (S41)) (A1 : Option Addr) (c1 : Nat) (l1 : List (S41)) (r : Bool) (w : World) (hr0 : Kd.C k41 w A0 l0.length l0) (hc0 : l0.length ≤ c0) (hr1 : Kd.C k41 w A1 l1.length l1) (hc1 : l1.length ≤ c1) (h : reelkeeperref06_Same.f k l0 l1 = some r) :
    Calls Tryz.prog 15 #[.slice A0 l0.length c0, .slice A1 l1.length c1] w fun e w' => e = .returned (.bool r) ∧ Drawn0 w w' := by
  have hu41 := Tryz.underlying41
  have HR0 := Aside0.mk hr0
  have HC0 := Aside0.mk hc0
  clear hr0 hc0
  have HR1 := Aside0.mk hr1
  have HC1 := Aside0.mk hc1
  clear hr1 hc1
  have H : (if (l0.length : Int) = (l1.length : Int) then (reelkeeperref06_Same.l0 k l0 l1 0) else (some false)) = some r := h
  clear h
  by_cases c3 : (l0.length : Int) = (l1.length : Int)
  · rw [if_pos c3] at H
    have c3b0 : ((l0.length : Int) == (l1.length : Int)) = true := beq_iff_eq.mpr c3
    have c3b1 : ((l0.length : Int) != (l1.length : Int)) = false := bne_eq_false_iff_eq.mpr c3
    have c3b2 : (l0.length == l1.length) = true := by first | simpa using c3 | (simp at c3 ⊢; omega)
    clear c3
    have H' := Aside0.mk H
    clear H
    go_enter Tryz.func15, Tryz.ntmps15
    go_wp2
    repeat (go_quiet (fail); try go_wp2)
    go_loopg [5] k (fun kq v5 w' => ∃ (x5_1 : Int), v5 = .int .i64 x5_1 ∧ Aside0 (reelkeeperref06_Same.l0 kq l0 l1 x5_1 = some r) ∧ Aside0 (kq ≤ k) ∧ Drawn0 w w')
    case atStart => exact ⟨(0), (by first | rfl | (simp; done) | (simp [*]; done)), H', ⟨Nat.le_refl _⟩, by repeat (first | exact Drawn0.refl _ | apply Drawn0.step)⟩
    case round =>
      clear H'
      try clear c1
      try clear p2
      try clear c3
      try clear c3b0
      try clear c3b1
      try clear c3b2
      obtain ⟨x5_1, rfl, HA, HK1, ⟨m1, rfl⟩⟩ := hrel
      cases gk with
      | zero => exact absurd HA.out (by simp [reelkeeperref06_Same.l0])
      | succ k1 =>
        have H := HA.out
        clear HA
        simp only [reelkeeperref06_Same.l0] at H
        by_cases c4 : x5_1 < (l0.length : Int)
        · rw [if_pos c4] at H
          have c4b0 : decide (x5_1 < (l0.length : Int)) = true := decide_eq_true c4
          clear c4
          by_cases c5 : 0 ≤ x5_1
          · rw [if_pos c5] at H
            have c5b0 : decide (0 ≤ x5_1) = true := decide_eq_true c5
            clear c5
            by_cases c6 : x5_1 < (l1.length : Int)
            · rw [if_pos c6] at H
              have c6b0 : decide (x5_1 < (l1.length : Int)) = true := decide_eq_true c6
              clear c6
              by_cases c7 : (!((((rd_T41 l0 x5_1).f0).toList) == (((rd_T41 l1 x5_1).f0).toList)) || (!((((rd_T41 l0 x5_1).f1).toList) == (((rd_T41 l1 x5_1).f1).toList)) || (!(((rd_T41 l0 x5_1).f2) == ((rd_T41 l1 x5_1).f2)) || (!(((rd_T41 l0 x5_1).f3) == ((rd_T41 l1 x5_1).f3)) || (!(((rd_T41 l0 x5_1).f4) == ((rd_T41 l1 x5_1).f4)) || (!(((rd_T41 l0 x5_1).f5) == ((rd_T41 l1 x5_1).f5)) || (!(((rd_T41 l0 x5_1).f6) == ((rd_T41 l1 x5_1).f6)) || (!((((rd_T41 l0 x5_1).f7).toList) == (((rd_T41 l1 x5_1).f7).toList)))))))))) = true
              · rw [if_pos c7] at H
                have c7b0 : (!((((rd_T41 l0 x5_1).f0).toList) == (((rd_T41 l1 x5_1).f0).toList)) || (!((((rd_T41 l0 x5_1).f1).toList) == (((rd_T41 l1 x5_1).f1).toList)) || (!(((rd_T41 l0 x5_1).f2) == ((rd_T41 l1 x5_1).f2)) || (!(((rd_T41 l0 x5_1).f3) == ((rd_T41 l1 x5_1).f3)) || (!(((rd_T41 l0 x5_1).f4) == ((rd_T41 l1 x5_1).f4)) || (!(((rd_T41 l0 x5_1).f5) == ((rd_T41 l1 x5_1).f5)) || (!(((rd_T41 l0 x5_1).f6) == ((rd_T41 l1 x5_1).f6)) || (!((((rd_T41 l0 x5_1).f7).toList) == (((rd_T41 l1 x5_1).f7).toList)))))))))) = true := c7
                clear c7
                obtain rfl := Option.some.inj H
                have p101 : 0 ≤ (x5_1 : Int) := of_decide_eq_true (by first | (with_reducible assumption) | assumption)
                have q101 : x5_1 < (l0.length : Int) := of_decide_eq_true (by first | (with_reducible assumption) | assumption)
                obtain ⟨ad101, e101, hx101_0, hx101_1, hx101_2, hx101_3, hx101_4, hx101_5, hx101_6, hx101_7⟩ := at_T41 HR0.out x5_1 p101 q101
                cases e101
                replace p101 := eq_true p101
                replace q101 := eq_true q101
                have p102 : 0 ≤ (x5_1 : Int) := of_decide_eq_true (by first | (with_reducible assumption) | assumption)
                have q102 : x5_1 < (l1.length : Int) := of_decide_eq_true (by first | (with_reducible assumption) | assumption)
                obtain ⟨ad102, e102, hx102_0, hx102_1, hx102_2, hx102_3, hx102_4, hx102_5, hx102_6, hx102_7⟩ := at_T41 HR1.out x5_1 p102 q102
                cases e102
                replace p102 := eq_true p102
                replace q102 := eq_true q102
                go_wp2
                repeat (go_quiet (fail); try go_wp2)
                go_ret
                exact ⟨by first | rfl | (simp; done) | (simp [*]; done), by repeat (first | exact Drawn0.refl _ | apply Drawn0.step)⟩
              · rw [if_neg c7] at H
                have c7b0 : (!((((rd_T41 l0 x5_1).f0).toList) == (((rd_T41 l1 x5_1).f0).toList)) || (!((((rd_T41 l0 x5_1).f1).toList) == (((rd_T41 l1 x5_1).f1).toList)) || (!(((rd_T41 l0 x5_1).f2) == ((rd_T41 l1 x5_1).f2)) || (!(((rd_T41 l0 x5_1).f3) == ((rd_T41 l1 x5_1).f3)) || (!(((rd_T41 l0 x5_1).f4) == ((rd_T41 l1 x5_1).f4)) || (!(((rd_T41 l0 x5_1).f5) == ((rd_T41 l1 x5_1).f5)) || (!(((rd_T41 l0 x5_1).f6) == ((rd_T41 l1 x5_1).f6)) || (!((((rd_T41 l0 x5_1).f7).toList) == (((rd_T41 l1 x5_1).f7).toList)))))))))) = false := by simpa using c7
                clear c7
                have H' := Aside0.mk H
                clear H
                have p101 : 0 ≤ (x5_1 : Int) := of_decide_eq_true (by first | (with_reducible assumption) | assumption)
                have q101 : x5_1 < (l0.length : Int) := of_decide_eq_true (by first | (with_reducible assumption) | assumption)
                obtain ⟨ad101, e101, hx101_0, hx101_1, hx101_2, hx101_3, hx101_4, hx101_5, hx101_6, hx101_7⟩ := at_T41 HR0.out x5_1 p101 q101
                cases e101
                replace p101 := eq_true p101
                replace q101 := eq_true q101
                have p102 : 0 ≤ (x5_1 : Int) := of_decide_eq_true (by first | (with_reducible assumption) | assumption)
                have q102 : x5_1 < (l1.length : Int) := of_decide_eq_true (by first | (with_reducible assumption) | assumption)
                obtain ⟨ad102, e102, hx102_0, hx102_1, hx102_2, hx102_3, hx102_4, hx102_5, hx102_6, hx102_7⟩ := at_T41 HR1.out x5_1 p102 q102
                cases e102
                replace p102 := eq_true p102
                replace q102 := eq_true q102
                go_wp2
                repeat (go_quiet (fail); try go_wp2)
                go_roundg k1
                case measure => have := HK1.out; omega
                case rel => exact ⟨(wrap64 (x5_1 + 1)), (by first | rfl | (simp; done) | (simp [*]; done)), H', ⟨by have := HK1.out; omega⟩, by repeat (first | exact Drawn0.refl _ | apply Drawn0.step)⟩
            · rw [if_neg c6] at H
              exact absurd H (by simp)
          · rw [if_neg c5] at H
            exact absurd H (by simp)
        · rw [if_neg c4] at H
          have c4b0 : decide (x5_1 < (l0.length : Int)) = false := decide_eq_false c4
          clear c4
          obtain rfl := Option.some.inj H
          go_wp2
          repeat (go_quiet (fail); try go_wp2)
          go_ret
          exact ⟨by first | rfl | (simp; done) | (simp [*]; done), by repeat (first | exact Drawn0.refl _ | apply Drawn0.step)⟩
  · rw [if_neg c3] at H
    have c3b0 : ((l0.length : Int) == (l1.length : Int)) = false := beq_eq_false_iff_ne.mpr c3
    have c3b1 : ((l0.length : Int) != (l1.length : Int)) = true := bne_iff_ne.mpr c3
    have c3b2 : (l0.length == l1.length) = false := by first | simpa using c3 | (simp at c3 ⊢; omega)
    obtain rfl := Option.some.inj H
    go_enter Tryz.func15, Tryz.ntmps15
    go_wp2
    repeat (go_quiet (fail); try go_wp2)
    go_ret
    exact ⟨by first | rfl | (simp; done) | (simp [*]; done), by repeat (first | exact Drawn0.refl _ | apply Drawn0.step)⟩
end
end Go.Proofs.YtpedagpcblnnhaaGreat.X
