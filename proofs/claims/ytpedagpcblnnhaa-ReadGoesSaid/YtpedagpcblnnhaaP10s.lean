/- What is gathered out of a run may be, plainly. -/
import Derived.Test.YtpedagpcblnnhaaXK
import Derived.Test.YtpedagpcblnnhaaXGpj
import Derived.Test.YtpedagpcblnnhaaYAll
import Derived.Test.YtpedagpcblnnhaaYAll
import Derived.Test.YtpedagpcblnnhaaYAll
import Derived.Test.YtpedagpcblnnhaaYAll
import Derived.Test.YtpedagpcblnnhaaPGA
import Derived.Test.YtpedagpcblnnhaaPGA
import Derived.Test.YtpedagpcblnnhaaPGA
import Derived.Test.YtpedagpcblnnhaaPGA
import Derived.Test.YtpedagpcblnnhaaPGA
import Derived.Test.YtpedagpcblnnhaaPGE
import Derived.Test.YtpedagpcblnnhaaPGE
import Derived.Test.YtpedagpcblnnhaaP04g
import Derived.Test.YtpedagpcblnnhaaP09a
import Derived.Test.YtpedagpcblnnhaaP09s
import Derived.Test.YtpedagpcblnnhaaP10a
namespace Go.Proofs.Ytpedagpcblnnhaa.X
open Go.RowKit Go.Proofs.YtpedagpcblnnhaaW.PrintWords Go.Proofs.YtpedagpcblnnhaaW.PrintLast Go.Proofs.YtpedagpcblnnhaaW.PrintMore
attribute [local go_sem] max2_int min2_int max_two min_two
set_option linter.unusedVariables false
set_option linter.unusedSimpArgs false

open Go.Proofs.YtpedagpcblnnhaaY
/-- The open node, by the parser's state. -/
def InvS (s : Pst) (c : Option Nd) : Prop := if s.f0 = 3 then ∃ d, c = some (addD s.f1 d) ∧ (d.size : Int) + s.f3 = s.f2 else c = none
theorem empty_add (d : ByteArray) : (⟨#[]⟩ : ByteArray) ++ d = d := ByteArray.empty_append
theorem one_data {n : Nd} {d : ByteArray} (ho : oneB n = true) (h48 : n.f2 = 48) (h7 : n.f7 = ⟨#[]⟩) (hd : d.size ≤ 4000) : oneB (addD n d) = true := by
  have hz : (addD n d).f7.size = d.size := by show (n.f7 ++ d).size = _; rw [h7, empty_add]
  unfold oneB at ho ⊢
  have hk : oneKind n = true → oneKind (addD n d) = true := fun hk => by
    unfold oneKind at hk ⊢
    rw [if_pos h48] at hk
    rw [show (addD n d).f2 = n.f2 from rfl, if_pos h48]
    rw [Bool.and_eq_true] at hk ⊢
    exact ⟨hk.1, decide_eq_true (by rw [hz]; exact hd)⟩
  simp only [Bool.and_eq_true] at ho ⊢
  exact ⟨⟨⟨⟨⟨hk ho.1.1.1.1.1, ho.1.1.1.1.2⟩, ho.1.1.1.2⟩, ho.1.1.2⟩, ho.1.2⟩, ho.2⟩
/-- A step's events, gathered. -/
def StepG (s t : Pst) (told : List Evt) : Prop := ∀ (q : List Nd) (c : Option Nd), InvS s c → (∀ n ∈ q, oneB n = true) → ∃ q' c', gathS told q c = ((q', c'), true) ∧ InvS t c' ∧ (∀ n ∈ q', oneB n = true) ∧ (∀ n, c' = some n → oneB n = true)
theorem stepG_same {s t : Pst} (h : s.f0 ≠ 3) (h' : t.f0 ≠ 3) : StepG s t [] := fun q c hi hq => by
  unfold InvS at hi
  rw [if_neg h] at hi
  exact ⟨q, c, rfl, by unfold InvS; rw [if_neg h']; exact hi, hq, fun n hn => by rw [hi] at hn; cases hn⟩
theorem textP_g {s : Pst} {h : Hd} {own : ByteArray} {ph : Int} {l : List Evt} {t : Pst} (h0 : s.f0 = 0) (hp : ph ≠ 3) (e : textP s h own ph [] = .ok (t, l)) : StepG s t l := by
  unfold textP at e
  split at e
  · split at e
    · cases e; exact stepG_same (by omega) hp
    · cases e
  · cases e
theorem nodeP_g {s : Pst} {h : Hd} {l : List Evt} {t : Pst} (h0 : s.f0 = 0) (h6 : 0 ≤ h.f6) (e : nodeP s h [] = .ok (t, l)) : StepG s t l := by
  unfold nodeP at e
  obtain ⟨MX, hMX⟩ : ∃ MX : Int, (if h.f8 = 48 then 4000 else 0) = MX := ⟨_, rfl⟩
  rw [hMX] at e
  split at e
  · split at e
    · split at e
      · split at e
        · rename_i _ _ _ ho
          rw [Bool.and_eq_true, decide_eq_true_eq] at ho
          have hz : nodeOf s h = addD (nodeOf s h) ⟨#[]⟩ := (addD_nil _).symm
          split at e
          · cases e
            intro q c hi hq
            unfold InvS at hi
            rw [if_neg (by omega)] at hi
            subst hi
            refine ⟨q ++ [nodeOf s h], none, rfl, by unfold InvS; rw [if_neg (show st0.f0 ≠ 3 by decide)], fun n hn => ?_, fun n hn => nomatch hn⟩
            rcases List.mem_append.1 hn with hn | hn
            · exact hq n hn
            · rw [List.mem_singleton.1 hn]; exact ho.1
          · cases e
            intro q c hi hq
            unfold InvS at hi
            rw [if_neg (by omega)] at hi
            subst hi
            refine ⟨q, some (nodeOf s h), rfl, ?_, hq, fun n hn => by cases hn; exact ho.1⟩
            unfold InvS
            rw [if_pos rfl]
            exact ⟨⟨#[]⟩, by rw [← hz], by show ((0 : Nat) : Int) + h.f6 = h.f6; omega⟩
        · cases e
      · cases e
    · cases e
  · cases e
theorem headP_g {s : Pst} {x : List Int} {l : List Evt} {t : Pst} (h0 : s.f0 = 0) (hby : ∀ y ∈ x, 0 ≤ y ∧ y ≤ 255) (e : headP s x [] = .ok (t, l)) : StepG s t l := by
  unfold headP at e
  split at e
  · split at e
    · cases e; exact stepG_same (by omega) (by show (4 : Int) ≠ 3; decide)
    · cases e
  · split at e
    · split at e
      · exact textP_g h0 (by decide) e
      · split at e
        · exact textP_g h0 (by decide) e
        · split at e
          · cases e
          · exact nodeP_g h0 (headGet_size x hby) e
    · cases e
theorem gath_data {q : List Nd} {n : Nd} (d : ByteArray) (l : List Evt) : gathS (⟨1, nd00, d⟩ :: l) q (some n) = gathS l q (some (addD n d)) := rfl
theorem gath_over {q : List Nd} {n : Nd} (l : List Evt) : gathS (evOver :: l) q (some n) = gathS l (q ++ [n]) none := rfl
theorem gath_node {q : List Nd} {n : Nd} {d : ByteArray} (l : List Evt) : gathS (⟨0, n, d⟩ :: l) q none = gathS l q (some n) := rfl
theorem dataP_g {s : Pst} {x : List Int} {l : List Evt} {t : Pst} (hm : mayS s = true) (hx : x.length = 512) (h0 : s.f0 = 3) (e : dataP s x [] = .ok (t, l)) : StepG s t l := by
  obtain ⟨hs, h48, h7, ho, h2, h3, hmod⟩ := (may_3i h0).1 hm
  obtain ⟨a2, b2⟩ := inB3_iff.1 h2
  obtain ⟨a3, b3⟩ := inB3_iff.1 h3
  have h7 := noT_iff.1 h7
  intro q c hi hq
  unfold InvS at hi
  rw [if_pos h0] at hi
  obtain ⟨d, rfl, hd⟩ := hi
  unfold dataP at e
  split at e
  · rename_i h5
    cases e
    have hz : (strOfNums (x.take s.f3.toNat)).size = s.f3.toNat := by rw [strOfNums_size, List.length_take]; omega
    refine ⟨q ++ [addD s.f1 (d ++ strOfNums (x.take s.f3.toNat))], none, ?_, by unfold InvS; rw [if_neg (show st0.f0 ≠ 3 by decide)], fun n hn => ?_, fun n hn => nomatch hn⟩
    · show gathS [⟨1, nd00, strOfNums (x.take s.f3.toNat)⟩, evOver] q _ = _
      rw [gath_data, gath_over, addD_addD]; rfl
    · rcases List.mem_append.1 hn with hn | hn
      · exact hq n hn
      · rw [List.mem_singleton.1 hn]; exact one_data ho h48 h7 (by rw [ByteArray.size_append, hz]; omega)
  · rename_i h5
    cases e
    have hz : (strOfNums (x.take 512)).size = 512 := by rw [strOfNums_size, List.length_take]; omega
    refine ⟨q, some (addD s.f1 (d ++ strOfNums (x.take 512))), ?_, ?_, hq, fun n hn => ?_⟩
    · show gathS [⟨1, nd00, strOfNums (x.take 512)⟩] q _ = _
      rw [gath_data, addD_addD]; rfl
    · unfold InvS
      rw [if_pos (show s.f0 = 3 from h0)]
      refine ⟨d ++ strOfNums (x.take 512), rfl, ?_⟩
      show ((d ++ strOfNums (x.take 512)).size : Int) + (s.f3 - 512) = s.f2
      rw [ByteArray.size_append, hz]; omega
    · cases hn
      exact one_data ho h48 h7 (by rw [ByteArray.size_append, hz]; omega)
theorem stepP_g {s : Pst} {x : List Int} {l : List Evt} {t : Pst} (hby : ∀ y ∈ x, 0 ≤ y ∧ y ≤ 255) (e : stepP s x = .ok (t, l)) : StepG s t l := by
  unfold stepP at e
  split at e
  · rename_i hq
    rw [Bool.and_eq_true, decide_eq_true_eq] at hq
    have nam : s.f0 = 1 ∨ s.f0 = 2 → nameP s x [] = .ok (t, l) → StepG s t l := fun h0 e => by
      unfold nameP at e
      split at e
      · split at e
        · cases e; exact stepG_same (by omega) (by show (0 : Int) ≠ 3; decide)
        · cases e; exact stepG_same (by omega) (by show (0 : Int) ≠ 3; decide)
      · cases e
    split at e
    · exact headP_g ‹_› hby e
    · split at e
      · exact nam (.inl ‹_›) e
      · split at e
        · exact nam (.inr ‹_›) e
        · split at e
          · exact dataP_g hq.1 hq.2 ‹_› e
          · split at e
            · rename_i h4
              unfold zeroP at e
              split at e
              · cases e; exact stepG_same (by omega) (by show (5 : Int) ≠ 3; decide)
              · cases e
            · cases e
  · cases e
/-- A run's events, gathered. -/
theorem runP_g : ∀ (L : List (List Int)) (s : Pst) (all : List Evt) (i : Nat), (∀ x ∈ L, ∀ y ∈ x, 0 ≤ y ∧ y ≤ 255) → (∃ q c, gathS all [] none = ((q, c), true) ∧ InvS s c ∧ (∀ n ∈ q, oneB n = true) ∧ (∀ n, c = some n → oneB n = true)) →
    ∃ q c, gathS (runP s L all i).2.1 [] none = ((q, c), true) ∧ InvS (runP s L all i).1 c ∧ (∀ n ∈ q, oneB n = true) ∧ (∀ n, c = some n → oneB n = true)
  | [], s, all, i, _, h => h
  | x :: L, s, all, i, hby, h => by
    have hx := hby x (.head _)
    have hL : ∀ x ∈ L, ∀ y ∈ x, 0 ≤ y ∧ y ≤ 255 := fun y hy => hby y (.tail _ hy)
    unfold runP
    by_cases h0 : (stepR s x).2.2 = 0
    · rw [if_pos h0]
      obtain ⟨_, _, _, he⟩ := stepR_ok2 hx h0
      have hg := stepP_g hx he
      obtain ⟨q, c, g1, g2, g3, g4⟩ := h
      obtain ⟨q', c', k1, k2, k3, k4⟩ := hg q c g2 g3
      have hnew : ∃ q c, gathS (all ++ (stepR s x).2.1) [] none = ((q, c), true) ∧ InvS (stepR s x).1 c ∧ (∀ n ∈ q, oneB n = true) ∧ (∀ n, c = some n → oneB n = true) := ⟨q', c', by rw [gathS_append, g1, if_pos rfl]; exact k1, k2, k3, k4⟩
      by_cases h5 : (stepR s x).1.f0 = 5
      · rw [if_pos h5]; exact hnew
      · rw [if_neg h5]; exact runP_g L _ _ _ hL hnew
    · rw [if_neg h0]; exact h
theorem run_gath {L : List (List Int)} (hby : ∀ x ∈ L, ∀ y ∈ x, 0 ≤ y ∧ y ≤ 255) : (gatherF (runR st0 L).2.1).2 = true ∧ ∀ n ∈ (gatherF (runR st0 L).2.1).1, oneB n = true := by
  obtain ⟨q, c, h1, _, h3, h4⟩ := runP_g L st0 [] 0 hby ⟨[], none, rfl, by unfold InvS; rw [if_neg (show st0.f0 ≠ 3 by decide)], (fun n hn => nomatch hn), (fun n hn => nomatch hn)⟩
  have h1 : gathS (runR st0 L).2.1 [] none = ((q, c), true) := h1
  unfold gatherF
  rw [h1]
  refine ⟨rfl, fun n hn => ?_⟩
  rcases List.mem_append.1 (show n ∈ q ++ c.toList from hn) with hn | hn
  · exact h3 n hn
  · cases c with
    | none => cases hn
    | some m => exact h4 n (by simp at hn; rw [hn])
/-- What is told is small. -/
def SmallE (v : Evt) : Prop := v.f1.f7.size ≤ 100000 ∧ v.f2.size ≤ 100000
theorem over_small : SmallE evOver := ⟨by decide, by decide⟩
theorem stepP_small {s : Pst} {x : List Int} {l : List Evt} {t : Pst} (e : stepP s x = .ok (t, l)) : ∀ v ∈ l, SmallE v := by
  have dat : ∀ m : Nat, m ≤ 512 → SmallE ⟨1, nd00, strOfNums (x.take m)⟩ := fun m hm => ⟨by show nd00.f7.size ≤ 100000; decide, by show (strOfNums (x.take m)).size ≤ 100000; rw [strOfNums_size, List.length_take]; omega⟩
  have nod : ∀ h, SmallE ⟨0, nodeOf s h, ⟨#[]⟩⟩ := fun h => ⟨by show (⟨#[]⟩ : ByteArray).size ≤ 100000; decide, by show (⟨#[]⟩ : ByteArray).size ≤ 100000; decide⟩
  have txt : ∀ {h own ph}, textP s h own ph [] = .ok (t, l) → ∀ v ∈ l, SmallE v := fun e => by
    rw [textP_told e]; intro v hv; cases hv
  have nam : nameP s x [] = .ok (t, l) → ∀ v ∈ l, SmallE v := fun e => by
    unfold nameP at e
    split at e
    · split at e
      · cases e; intro v hv; cases hv
      · cases e; intro v hv; cases hv
    · cases e
  unfold stepP at e
  split at e
  · rename_i hq
    rw [Bool.and_eq_true, decide_eq_true_eq] at hq
    split at e
    · unfold headP at e
      split at e
      · split at e
        · cases e; intro v hv; cases hv
        · cases e
      · split at e
        · split at e
          · exact txt e
          · split at e
            · exact txt e
            · split at e
              · cases e
              · unfold nodeP at e
                generalize (if (headGet x).1.f8 = 48 then (4000 : Int) else 0) = MX at e
                split at e
                · split at e
                  · split at e
                    · split at e
                      · split at e
                        · cases e
                          intro v hv
                          simp only [List.nil_append, List.cons_append, List.mem_cons, List.not_mem_nil, or_false] at hv
                          rcases hv with rfl | rfl
                          · exact nod _
                          · exact over_small
                        · cases e
                          intro v hv
                          simp only [List.nil_append, List.mem_cons, List.not_mem_nil, or_false] at hv
                          subst hv
                          exact nod _
                      · cases e
                    · cases e
                  · cases e
                · cases e
        · cases e
    · split at e
      · exact nam e
      · split at e
        · exact nam e
        · split at e
          · unfold dataP at e
            split at e
            · rename_i h5
              cases e
              intro v hv
              simp only [List.nil_append, List.cons_append, List.mem_cons, List.not_mem_nil, or_false] at hv
              rcases hv with rfl | rfl
              · exact dat _ (by omega)
              · exact over_small
            · cases e
              intro v hv
              simp only [List.nil_append, List.mem_cons, List.not_mem_nil, or_false] at hv
              subst hv
              exact dat _ (by decide)
          · split at e
            · unfold zeroP at e
              split at e
              · cases e; intro v hv; cases hv
              · cases e
            · cases e
  · cases e
theorem runP_small : ∀ (L : List (List Int)) (s : Pst) (all : List Evt) (i : Nat), (∀ v ∈ all, SmallE v) → ∀ v ∈ (runP s L all i).2.1, SmallE v
  | [], s, all, i, h => h
  | x :: L, s, all, i, h => by
    have ht : ∀ v ∈ (stepR s x).2.1, SmallE v := by
      unfold stepR
      cases e : stepP s x with
      | error k => intro v hv; cases hv
      | ok r => obtain ⟨t, l⟩ := r; exact stepP_small e
    have hall : ∀ v ∈ all ++ (stepR s x).2.1, SmallE v := fun v hv => (List.mem_append.1 hv).elim (h v) (ht v)
    unfold runP
    split
    · split
      · exact hall
      · exact runP_small L _ _ _ hall
    · exact h
theorem run_small (L : List (List Int)) : ∀ v ∈ (runR st0 L).2.1, v.f1.f7.size ≤ 100000 ∧ v.f2.size ≤ 100000 := runP_small L st0 [] 0 (fun v hv => nomatch hv)
theorem run_count (L : List (List Int)) : (runR st0 L).2.1.length ≤ 2 * (runR st0 L).2.2.1 ∧ (runR st0 L).2.2.1 ≤ L.length ∧ ((runR st0 L).2.2.2 = 0 ∨ (runR st0 L).2.2.1 < L.length) := by
  have h := runP_told L st0 [] 0 st0_ok (fun v hv => nomatch hv) (by decide)
  have e : runP st0 L [] 0 = runR st0 L := rfl
  rw [e] at h
  have h3 := h.2.2.2.1
  have h4 := h.2.2.2.2
  exact ⟨h.2.1, by omega, by omega⟩

end Go.Proofs.Ytpedagpcblnnhaa.X
