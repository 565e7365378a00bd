import Derived.Test.YtpedagpcblnnhaaGreatXK
import Derived.Test.YtpedagpcblnnhaaGreatXGpj
import Derived.Test.YtpedagpcblnnhaaGreatYAll
import Derived.Test.YtpedagpcblnnhaaGreatPGA
import Derived.Test.YtpedagpcblnnhaaGreatPGE
import Derived.Test.YtpedagpcblnnhaaGreatP04g
import Derived.Test.YtpedagpcblnnhaaGreatP09a
import Derived.Test.YtpedagpcblnnhaaGreatXGentry
import Derived.Test.YtpedagpcblnnhaaGreatXGhead
import Derived.Test.YtpedagpcblnnhaaGreatXGnum
import Derived.Test.YtpedagpcblnnhaaGreatXGtree
import Derived.Test.YtpedagpcblnnhaaGreatXGlong
import Derived.Test.YtpedagpcblnnhaaGreatXGblock
import Derived.Test.YtpedagpcblnnhaaGreatXreelkeeperlaw06Few
import Derived.Test.YtpedagpcblnnhaaGreatXGpath
import Derived.Test.YtpedagpcblnnhaaGreatP02p
import Derived.Test.YtpedagpcblnnhaaGreatP10a
import Derived.Test.YtpedagpcblnnhaaGreatP09n
namespace Go.Proofs.YtpedagpcblnnhaaGreat.X
open Go.RowKit Go.Proofs.YtpedagpcblnnhaaGreatW.PrintWords Go.Proofs.YtpedagpcblnnhaaGreatW.PrintLast Go.Proofs.YtpedagpcblnnhaaGreatW.PrintMore
attribute [local go_sem] max2_int min2_int max_two min_two
set_option linter.unusedVariables false
set_option linter.unusedSimpArgs false
section
open Go.Proofs.YtpedagpcblnnhaaGreatY
set_option maxRecDepth 100000
def EvOk (v : Evt) : Prop := (v.f0 = 0 → oneB v.f1 = true ∧ v.f1.f7 = ⟨#[]⟩) ∧ (v.f0 = 1 → 1 ≤ v.f2.size ∧ v.f2.size ≤ 512)
theorem evOver_ok : EvOk evOver := ⟨fun h => absurd h (by decide), fun h => absurd h (by decide)⟩
theorem nodeP_told {s : Pst} {h : Hd} {l : List Evt} {t : Pst} (e : nodeP s h [] = .ok (t, l)) : ∀ v ∈ l, EvOk v := by
  have one : ∀ ho : oneB (nodeOf s h) = true, EvOk ⟨0, nodeOf s h, ⟨#[]⟩⟩ := fun ho => ⟨fun _ => ⟨ho, rfl⟩, fun c => absurd (show (0 : Int) = 1 from c) (by decide)⟩
  unfold nodeP at e
  generalize (if h.f8 = 48 then (4000 : Int) else 0) = MX at e
  split at e
  · split at e
    · split at e
      · split at e
        · rename_i _ _ _ ho
          rw [Bool.and_eq_true] at ho
          split at e
          · cases e
            intro v hv
            simp only [List.nil_append, List.cons_append, List.mem_cons, List.not_mem_nil, or_false] at hv
            rcases hv with rfl | rfl
            · exact one ho.1
            · exact evOver_ok
          · cases e
            intro v hv
            simp only [List.nil_append, List.mem_cons, List.not_mem_nil, or_false] at hv
            subst hv
            exact one ho.1
        · cases e
      · cases e
    · cases e
  · cases e
theorem textP_told {s : Pst} {h : Hd} {own : ByteArray} {ph : Int} {l l' : List Evt} {t : Pst} (e : textP s h own ph l = .ok (t, l')) : l' = l := by
  unfold textP at e
  split at e
  · split at e
    · cases e; rfl
    · cases e
  · cases e
theorem headP_told {s : Pst} {x : List Int} {l : List Evt} {t : Pst} (e : headP s x [] = .ok (t, l)) : ∀ v ∈ l, EvOk v := by
  unfold headP at e
  split at e
  · split at e
    · cases e; intro v hv; cases hv
    · cases e
  · split at e
    · split at e
      · rw [textP_told e]; intro v hv; cases hv
      · split at e
        · rw [textP_told e]; intro v hv; cases hv
        · split at e
          · cases e
          · exact nodeP_told e
    · cases e
theorem dataP_told {s : Pst} {x : List Int} {l : List Evt} {t : Pst} (hx : x.length = 512) (h1 : 1 ≤ s.f3) (e : dataP s x [] = .ok (t, l)) : ∀ v ∈ l, EvOk v := by
  have one : ∀ m : Nat, 1 ≤ m → m ≤ 512 → EvOk ⟨1, nd00, strOfNums (x.take m)⟩ := fun m a b => ⟨fun c => absurd (show (1 : Int) = 0 from c) (by decide), fun _ => by
    show 1 ≤ (strOfNums (x.take m)).size ∧ (strOfNums (x.take m)).size ≤ 512
    rw [strOfNums_size, List.length_take]; omega⟩
  unfold dataP at e
  split at e
  · rename_i h5
    cases e
    intro v hv
    simp only [List.nil_append, List.cons_append, List.mem_cons, List.not_mem_nil, or_false] at hv
    rcases hv with rfl | rfl
    · exact one _ (by omega) (by omega)
    · exact evOver_ok
  · cases e
    intro v hv
    simp only [List.nil_append, List.mem_cons, List.not_mem_nil, or_false] at hv
    subst hv
    exact one _ (by decide) (by decide)
theorem stepP_told {s : Pst} {x : List Int} {l : List Evt} {t : Pst} (e : stepP s x = .ok (t, l)) : ∀ v ∈ l, EvOk v := by
  unfold stepP at e
  split at e
  · rename_i hq
    rw [Bool.and_eq_true, decide_eq_true_eq] at hq
    have nam : nameP s x [] = .ok (t, l) → ∀ v ∈ l, EvOk v := fun e => by
      unfold nameP at e
      split at e
      · split at e
        · cases e; intro v hv; cases hv
        · cases e; intro v hv; cases hv
      · cases e
    split at e
    · exact headP_told e
    · split at e
      · exact nam e
      · split at e
        · exact nam e
        · split at e
          · rename_i h3
            exact dataP_told hq.2 (inB3_iff.1 ((may_3i h3).1 hq.1).2.2.2.2.2.1).1 e
          · split at e
            · unfold zeroP at e
              split at e
              · cases e; intro v hv; cases hv
              · cases e
            · cases e
  · cases e
theorem stepR_told (s : Pst) (x : List Int) : ∀ v ∈ (stepR s x).2.1, EvOk v := by
  unfold stepR
  cases h : stepP s x with
  | error k => intro v hv; cases hv
  | ok r => obtain ⟨t, l⟩ := r; exact stepP_told h
theorem runP_told : ∀ (L : List (List Int)) (s : Pst) (all : List Evt) (i : Nat), StOk s → (∀ v ∈ all, EvOk v) → all.length ≤ 2 * i →
    (∀ v ∈ (runP s L all i).2.1, EvOk v) ∧ (runP s L all i).2.1.length ≤ 2 * (runP s L all i).2.2.1 ∧ i ≤ (runP s L all i).2.2.1 ∧ (runP s L all i).2.2.1 ≤ i + L.length ∧ ((runP s L all i).2.2.2 = 0 ∨ (runP s L all i).2.2.1 < i + L.length)
  | [], s, all, i, _, ha, hl => ⟨ha, hl, Nat.le_refl _, Nat.le_refl _, .inl rfl⟩
  | x :: L, s, all, i, hs, ha, hl => by
    have hok := stepR_ok (x := x) hs
    have ht := stepR_told s x
    have hall : ∀ v ∈ all ++ (stepR s x).2.1, EvOk v := fun v hv => (List.mem_append.1 hv).elim (ha v) (ht v)
    have hlen : (all ++ (stepR s x).2.1).length ≤ 2 * (i + 1) := by rw [List.length_append]; have := hok.2; omega
    unfold runP
    rw [List.length_cons]
    split
    · split
      · exact ⟨hall, hlen, by show i ≤ i + 1; omega, by show i + 1 ≤ i + (L.length + 1); omega, .inl rfl⟩
      · obtain ⟨a1, a2, a3, a4, a5⟩ := runP_told L (stepR s x).1 (all ++ (stepR s x).2.1) (i + 1) hok.1 hall hlen
        exact ⟨a1, a2, by omega, by omega, a5.elim .inl (fun h => .inr (by omega))⟩
    · exact ⟨ha, hl, Nat.le_refl _, by show i ≤ i + (L.length + 1); omega, .inr (by show i < i + (L.length + 1); omega)⟩
end
section
open Go.Proofs.YtpedagpcblnnhaaGreatY
def evsT : List Nd → List Evt
  | [] => []
  | n :: t => evsOf n ++ evsT t
theorem run_body : ∀ (t : List Nd), (∀ n ∈ t, oneB n = true) → ∀ (more : List (List Int)) (all : List Evt) (i : Nat), runP st0 (bodyB t ++ more) all i = runP st0 more (all ++ evsT t) (i + (bodyB t).length)
  | [], _, more, all, i => by
    show runP st0 more all i = runP st0 more (all ++ []) (i + 0)
    rw [List.append_nil, Nat.add_zero]
  | n :: t, h, more, all, i => by
    show runP st0 ((entryB n ++ bodyB t) ++ more) all i = runP st0 more (all ++ (evsOf n ++ evsT t)) (i + (entryB n ++ bodyB t).length)
    rw [List.append_assoc, run_node (h n (.head _)), run_body t (fun m hm => h m (.tail _ hm)), List.append_assoc, List.length_append, Nat.add_assoc]
theorem run_zeros (b : List (List Int)) (all : List Evt) (i : Nat) : runP st0 (zeroB ++ b) all i = (zst 5, all, i + 2, 0) := by
  show runP (zst 0) (z512 :: z512 :: b) all i = _
  rw [runP, step_z0, if_pos rfl, if_neg (show ¬ (zst 4).f0 = 5 by decide), runP, step_z4, if_pos rfl, if_pos (show (zst 5).f0 = 5 from rfl)]
  show (zst 5, (all ++ []) ++ [], i + 1 + 1, (0 : Int)) = _
  rw [List.append_nil, List.append_nil]
theorem run_tree {t : List Nd} (h : ∀ n ∈ t, oneB n = true) (b : List (List Int)) : runR st0 ((bodyB t ++ zeroB) ++ b) = (zst 5, evsT t, (bodyB t ++ zeroB).length, 0) := by
  unfold runR
  rw [List.append_assoc, run_body t h, run_zeros, List.nil_append, Nat.zero_add, List.length_append]
  rfl
theorem gath_datas (l : List Evt) (q : List Nd) : ∀ (d : Nat) (r : List Int), r.length = d → ∀ m, gathS (dataEvs r ++ l) q (some m) = gathS l q (some (addD m (strOfNums r))) := by
  intro d
  induction d using Nat.strongRecOn with
  | _ d ih =>
  intro r hd m
  by_cases c : r.length = 0
  · rw [dataEvs_nil c, List.eq_nil_of_length_eq_zero c, List.nil_append]
    show _ = gathS l q (some (addD m ⟨#[]⟩))
    rw [addD_nil]
  · have hl : (r.drop 512).length = r.length - 512 := List.length_drop
    rw [dataEvs_cons c, List.cons_append]
    show gathS (dataEvs (r.drop 512) ++ l) q (some (addD m (strOfNums (r.take 512)))) = _
    rw [ih _ (by omega) _ rfl, addD_addD, ← str_append, List.take_append_drop]
theorem bare_add (n : Nd) : addD (bare n) n.f7 = n := by
  show (⟨n.f0, n.f1, n.f2, n.f3, n.f4, n.f5, n.f6, ByteArray.empty ++ n.f7⟩ : Nd) = n
  rw [ByteArray.empty_append]
theorem gath_evs (n : Nd) (l : List Evt) (q : List Nd) : gathS (evsOf n ++ l) q none = gathS l (q ++ [n]) none := by
  unfold evsOf
  rw [List.cons_append, List.append_assoc]
  show gathS (dataEvs (bytesOf n.f7) ++ ([evOver] ++ l)) q (some (bare n)) = _
  rw [gath_datas _ _ _ _ rfl, str_bytesOf, bare_add]
  rfl
theorem gath_tree : ∀ (t : List Nd) (q : List Nd), gathS (evsT t) q none = ((q ++ t, none), true)
  | [], q => by rw [List.append_nil]; rfl
  | n :: t, q => by
    show gathS (evsOf n ++ evsT t) q none = _
    rw [gath_evs, gath_tree t, List.append_assoc]
    rfl
theorem gather_tree (t : List Nd) : gatherF (evsT t) = (t, true) := by
  unfold gatherF
  rw [gath_tree t []]
  unfold outOf
  simp
theorem bodyB_by : ∀ (t : List Nd), (∀ n ∈ t, oneB n = true) → ∀ x ∈ bodyB t, ∀ y ∈ x, 0 ≤ y ∧ y ≤ 255
  | [], _, x, hx => nomatch hx
  | n :: t, h, x, hx => by
    rcases List.mem_append.1 (show x ∈ entryB n ++ bodyB t from hx) with hx | hx
    · exact entryB_by (oneB_facts (h n (.head _))) x hx
    · exact bodyB_by t (fun m hm => h m (.tail _ hm)) x hx
theorem allB_by {t : List Nd} (h : ∀ n ∈ t, oneB n = true) : ∀ x ∈ bodyB t ++ zeroB, ∀ y ∈ x, 0 ≤ y ∧ y ≤ 255 := fun x hx => by
  rcases List.mem_append.1 hx with hx | hx
  · exact bodyB_by t h x hx
  · have hz : x = z512 := by
      rcases List.mem_cons.1 hx with h | h
      · exact h
      · exact List.mem_singleton.1 h
    intro y hy
    rw [hz] at hy
    rw [List.eq_of_mem_replicate hy]
    exact ⟨by decide, by decide⟩
theorem run_cut {L : List (List Int)} {E : List Evt} (h : runR st0 L = (zst 5, E, L.length, 0)) {k : Nat} (hk : k < L.length) : (runR st0 (L.take k)).2.2.2 = 0 ∧ (runR st0 (L.take k)).1.f0 ≠ 5 ∧ ∃ r, E = (runR st0 (L.take k)).2.1 ++ r := by
  have ha := runR_append st0 (L.take k) (L.drop k)
  rw [List.take_append_drop, h] at ha
  have hc : (runR st0 (L.take k)).2.2.1 ≤ k := by
    have h1 := (runP_told (L.take k) st0 [] 0 st0_ok (fun v hv => nomatch hv) (by decide)).2.2.2.1
    rw [List.length_take] at h1
    have h2 : (runP st0 (L.take k) [] 0).2.2.1 ≤ k := by omega
    exact h2
  split at ha
  · rw [← ha] at hc
    have hc : L.length ≤ k := hc
    omega
  · rename_i hn
    refine ⟨Classical.byContradiction fun e => hn (.inl e), fun e => ?_, ?_⟩
    · by_cases hz : 0 < (runR st0 (L.take k)).2.2.1
      · exact hn (.inr ⟨e, hz⟩)
      · have hg := (runP_ge (L.take k) st0 [] 0).2 (show (runR st0 (L.take k)).2.2.1 = 0 by omega)
        have e2 : (runP st0 (L.take k) [] 0).1.f0 = 5 := e
        rw [hg] at e2
        revert e2
        decide
    · exact ⟨_, congrArg (fun x => x.2.1) ha⟩
theorem cut_more {t : List Nd} (h : ∀ n ∈ t, oneB n = true) {k : Nat} (hk : k < (bodyB t ++ zeroB).length) : (runR st0 ((bodyB t ++ zeroB).take k)).2.2.2 = 0 ∧ (runR st0 ((bodyB t ++ zeroB).take k)).1.f0 ≠ 5 ∧ More (gatherF (runR st0 ((bodyB t ++ zeroB).take k)).2.1).1 t := by
  have hr := run_tree h []
  rw [List.append_nil] at hr
  obtain ⟨h1, h2, r, h3⟩ := run_cut hr hk
  refine ⟨h1, h2, ?_⟩
  have hm := gatherF_more (runR st0 ((bodyB t ++ zeroB).take k)).2.1 r
  rw [← h3, gather_tree] at hm
  exact hm
end
end Go.Proofs.YtpedagpcblnnhaaGreat.X
