import Derived.Test.YtpedagpcblnnhaaGreatXK
import Derived.Test.YtpedagpcblnnhaaGreatXGpj
import Derived.Test.YtpedagpcblnnhaaGreatYAll
import Derived.Test.YtpedagpcblnnhaaGreatPGA
import Derived.Test.YtpedagpcblnnhaaGreatPGE
import Derived.Test.YtpedagpcblnnhaaGreatP04g
import Derived.Test.YtpedagpcblnnhaaGreatP09a
import Derived.Test.YtpedagpcblnnhaaGreatP06o
import Derived.Test.YtpedagpcblnnhaaGreatXGentry
import Derived.Test.YtpedagpcblnnhaaGreatP09n
import Derived.Test.YtpedagpcblnnhaaGreatXGtree
import Derived.Test.YtpedagpcblnnhaaGreatXGhead
import Derived.Test.YtpedagpcblnnhaaGreatXGnum
import Derived.Test.YtpedagpcblnnhaaGreatXGlong
import Derived.Test.YtpedagpcblnnhaaGreatXGblock
import Derived.Test.YtpedagpcblnnhaaGreatP02p
import Derived.Lib.IndexAny
namespace Go.Proofs.YtpedagpcblnnhaaGreat.X
open Go.RowKit Go.Proofs.YtpedagpcblnnhaaGreatW.PrintWords Go.Proofs.YtpedagpcblnnhaaGreatW.PrintLast Go.Proofs.YtpedagpcblnnhaaGreatW.PrintMore
attribute [local go_sem] max2_int min2_int max_two min_two
set_option linter.unusedVariables false
set_option linter.unusedSimpArgs false
section
open Go.Proofs.YtpedagpcblnnhaaGreatY
theorem nil_or_snoc {α : Type} (l : List α) : l = [] ∨ ∃ p n, l = p ++ [n] := by
  rcases List.eq_nil_or_concat l with h | ⟨p, n, h⟩
  · exact .inl h
  · exact .inr ⟨p, n, by rw [h, List.concat_eq_append]⟩
def addD (n : Nd) (d : ByteArray) : Nd := ⟨n.f0, n.f1, n.f2, n.f3, n.f4, n.f5, n.f6, n.f7 ++ d⟩
def takeE (q : List Nd) (c : Option Nd) (v : Evt) : Option (List Nd × Option Nd) :=
  if v.f0 = 0 then (match c with | none => some (q, some v.f1) | some _ => none)
  else if v.f0 = 1 then (match c with | some n => some (q, some (addD n v.f2)) | none => none)
  else if v.f0 = 2 then (match c with | some n => some (q ++ [n], none) | none => none)
  else none
def gathS : List Evt → List Nd → Option Nd → (List Nd × Option Nd) × Bool
  | [], q, c => ((q, c), true)
  | v :: l, q, c => match takeE q c v with
    | some r => gathS l r.1 r.2
    | none => ((q, c), false)
def outOf (r : List Nd × Option Nd) : List Nd := r.1 ++ r.2.toList
def gatherF (l : List Evt) : List Nd × Bool := (outOf (gathS l [] none).1, (gathS l [] none).2)
theorem gathS_append (b : List Evt) : ∀ (a : List Evt) (q : List Nd) (c : Option Nd), gathS (a ++ b) q c = if (gathS a q c).2 = true then gathS b (gathS a q c).1.1 (gathS a q c).1.2 else gathS a q c
  | [], q, c => by
    show gathS b q c = if (true : Bool) = true then gathS b q c else _
    rw [if_pos rfl]
  | v :: a, q, c => by
    rw [List.cons_append]
    show (match takeE q c v with | some r => gathS (a ++ b) r.1 r.2 | none => ((q, c), false)) = if (match takeE q c v with | some r => gathS a r.1 r.2 | none => ((q, c), false)).2 = true then gathS b (match takeE q c v with | some r => gathS a r.1 r.2 | none => ((q, c), false)).1.1 (match takeE q c v with | some r => gathS a r.1 r.2 | none => ((q, c), false)).1.2 else (match takeE q c v with | some r => gathS a r.1 r.2 | none => ((q, c), false))
    cases takeE q c v with
    | none => rfl
    | some r => exact gathS_append b a r.1 r.2
theorem gathS_front (q0 : List Nd) : ∀ (l : List Evt) (q : List Nd) (c : Option Nd), gathS l (q0 ++ q) c = ((q0 ++ (gathS l q c).1.1, (gathS l q c).1.2), (gathS l q c).2)
  | [], q, c => rfl
  | v :: l, q, c => by
    have h : takeE (q0 ++ q) c v = (takeE q c v).map fun r => (q0 ++ r.1, r.2) := by
      unfold takeE
      split
      · cases c <;> rfl
      · split
        · cases c <;> rfl
        · split
          · cases c with
            | none => rfl
            | some n => simp
          · rfl
    show (match takeE (q0 ++ q) c v with | some r => gathS l r.1 r.2 | none => ((q0 ++ q, c), false)) = _
    rw [h]
    show _ = ((q0 ++ (match takeE q c v with | some r => gathS l r.1 r.2 | none => ((q, c), false)).1.1, (match takeE q c v with | some r => gathS l r.1 r.2 | none => ((q, c), false)).1.2), (match takeE q c v with | some r => gathS l r.1 r.2 | none => ((q, c), false)).2)
    cases takeE q c v with
    | none => rfl
    | some r => exact gathS_front q0 l r.1 r.2
inductive More : List Nd → List Nd → Prop where
  | none (t r : List Nd) : More t (t ++ r)
  | last (t : List Nd) (n : Nd) (d : ByteArray) (r : List Nd) : More (t ++ [n]) (t ++ addD n d :: r)
theorem addD_nil (n : Nd) : addD n ⟨#[]⟩ = n := by
  obtain ⟨a0, a1, a2, a3, a4, a5, a6, a7⟩ := n
  show (⟨a0, a1, a2, a3, a4, a5, a6, a7 ++ ByteArray.empty⟩ : Nd) = _
  rw [ByteArray.append_empty]
theorem addD_addD (n : Nd) (a b : ByteArray) : addD (addD n a) b = addD n (a ++ b) := by
  show (⟨n.f0, n.f1, n.f2, n.f3, n.f4, n.f5, n.f6, (n.f7 ++ a) ++ b⟩ : Nd) = ⟨n.f0, n.f1, n.f2, n.f3, n.f4, n.f5, n.f6, n.f7 ++ (a ++ b)⟩
  rw [ByteArray.append_assoc]
theorem gathS_some : ∀ (l : List Evt) (q : List Nd) (n : Nd), ∃ d r, outOf (gathS l q (some n)).1 = q ++ addD n d :: r
  | [], q, n => ⟨⟨#[]⟩, [], by rw [addD_nil]; rfl⟩
  | v :: l, q, n => by
    have same : ∃ d r, outOf ((q, some n) : List Nd × Option Nd) = q ++ addD n d :: r := ⟨⟨#[]⟩, [], by rw [addD_nil]; rfl⟩
    show ∃ d r, outOf (match takeE q (some n) v with | some r => gathS l r.1 r.2 | none => ((q, some n), false)).1 = q ++ addD n d :: r
    by_cases h0 : v.f0 = 0
    · rw [show takeE q (some n) v = none by unfold takeE; rw [if_pos h0]]
      exact same
    · by_cases h1 : v.f0 = 1
      · rw [show takeE q (some n) v = some (q, some (addD n v.f2)) by unfold takeE; rw [if_neg h0, if_pos h1]]
        obtain ⟨d, r, h⟩ := gathS_some l q (addD n v.f2)
        exact ⟨v.f2 ++ d, r, by rw [← addD_addD]; exact h⟩
      · by_cases h2 : v.f0 = 2
        · rw [show takeE q (some n) v = some (q ++ [n], none) by unfold takeE; rw [if_neg h0, if_neg h1, if_pos h2]]
          have hf := gathS_front (q ++ [n]) l [] none
          rw [List.append_nil] at hf
          refine ⟨⟨#[]⟩, outOf (gathS l [] none).1, ?_⟩
          show outOf (gathS l (q ++ [n]) none).1 = _
          rw [hf, addD_nil]
          unfold outOf
          simp
        · rw [show takeE q (some n) v = none by unfold takeE; rw [if_neg h0, if_neg h1, if_neg h2]]
          exact same
theorem gathS_more (b : List Evt) (q : List Nd) (c : Option Nd) : More (outOf (q, c)) (outOf (gathS b q c).1) := by
  cases c with
  | none =>
    have hf := gathS_front q b [] none
    rw [List.append_nil] at hf
    rw [hf]
    have e : outOf ((q ++ (gathS b [] none).1.1, (gathS b [] none).1.2) : List Nd × Option Nd) = q ++ outOf (gathS b [] none).1 := by unfold outOf; rw [List.append_assoc]
    rw [e, show outOf ((q, none) : List Nd × Option Nd) = q by unfold outOf; simp]
    exact .none q _
  | some n =>
    obtain ⟨d, r, h⟩ := gathS_some b q n
    rw [h]
    exact .last q n d r
theorem gatherF_more (a b : List Evt) : More (gatherF a).1 (gatherF (a ++ b)).1 := by
  unfold gatherF
  rw [gathS_append]
  split
  · exact gathS_more b _ _
  · have h := More.none (outOf (gathS a [] none).1) []
    rw [List.append_nil] at h
    exact h
end
section
open Go.Proofs.YtpedagpcblnnhaaGreatY
set_option maxRecDepth 100000 in
theorem open_nodes {H : Type} {enc : TypeId × Value → H} {w : World} {base : Nat} {sp : Nat → Bool} {held : Bool} {r : Reach} {b0 : Nat} {v : Value} {d : DataW H} {ps : List MemPlace} (hval : Value.okWide Tryz.prog w r b0 27 v) (h : DataW.Trod enc Tryz.prog w base sp held 27 v d ps) :
    ∃ A c xs, v = .slice A (List.length xs) c ∧ xs.length ≤ c ∧ k41.C w A xs.length xs := by
  obtain ⟨a, len, cap, rfl⟩ := Go.WideShapes.okWide_slice Tryz.underlying27 hval
  obtain ⟨fuel, hf⟩ := h
  obtain ⟨A, c, xs, he, h1, h2⟩ := opens_row Tryz.underlying27 (by kernel_rfl) opens_node hf
  simp [Value.cells] at he
  obtain ⟨rfl, rfl, rfl⟩ := he
  exact ⟨_, _, xs, rfl, h1, h2⟩
end
section
open Go.Proofs.YtpedagpcblnnhaaGreatY
theorem str_append (a b : List Int) : strOfNums (a ++ b) = strOfNums a ++ strOfNums b := by
  apply ByteArray.ext
  apply Array.ext'
  rw [app_data]
  show (a ++ b).map (fun n : Int => UInt8.ofNat n.toNat) = a.map (fun n : Int => UInt8.ofNat n.toNat) ++ b.map (fun n : Int => UInt8.ofNat n.toNat)
  rw [List.map_append]
end
section
open Go.Proofs.YtpedagpcblnnhaaGreatY
theorem longL_by {kind : Int} {s : ByteArray} (hk : kind = 75 ∨ kind = 76) (hs : s.size ≤ 10000) : ∀ x ∈ longL kind s, byteOk x := by
  intro x hx
  unfold longL at hx
  rcases List.mem_cons.1 hx with rfl | hx
  · rw [longHead hk hs]
    exact byteOk_hdBlk (by show 0 ≤ kind ∧ kind ≤ 255; omega)
  · exact byteOk_cutL _ x hx
theorem entryB_by {n : Nd} (h : OneFacts n) : ∀ x ∈ entryB n, byteOk x := by
  have hz := mayL_pos h.path
  have hl := h.link
  have hk := h.kinds
  intro x hx
  unfold entryB at hx
  rw [aheadB_one h] at hx
  rcases List.mem_append.1 hx with hx | hx
  · rcases List.mem_append.1 hx with hx | hx
    · by_cases c : (needsB n.f0 n.f1).2 = true
      · rw [if_pos c] at hx; exact longL_by (.inl rfl) (by omega) x hx
      · rw [if_neg c] at hx; cases hx
    · by_cases c : (needsB n.f0 n.f1).1 = true
      · rw [if_pos c] at hx; exact longL_by (.inr rfl) (by omega) x hx
      · rw [if_neg c] at hx; cases hx
  · rcases List.mem_cons.1 hx with rfl | hx
    · exact byteOk_hdBlk (by show 0 ≤ n.f2 ∧ n.f2 ≤ 255; omega)
    · exact byteOk_cutL _ x hx
end
section
open Go.Proofs.YtpedagpcblnnhaaGreatY
theorem more_at {t u : List Nd} (h : More t u) : t.length ≤ u.length ∧ ∀ i, i < t.length → ∃ y d, t[i]? = some y ∧ u[i]? = some (addD y d) ∧ (i + 1 < t.length → d = ⟨#[]⟩) := by
  cases h with
  | none r =>
    refine ⟨by rw [List.length_append]; omega, fun i hi => ?_⟩
    refine ⟨t[i], ⟨#[]⟩, List.getElem?_eq_getElem hi, ?_, fun _ => rfl⟩
    rw [List.getElem?_append_left hi, addD_nil, List.getElem?_eq_getElem hi]
  | last t n d r =>
    refine ⟨by simp, fun i hi => ?_⟩
    rw [List.length_append, List.length_singleton] at hi
    by_cases c : i < t.length
    · refine ⟨t[i], ⟨#[]⟩, ?_, ?_, fun _ => rfl⟩
      · rw [List.getElem?_append_left c, List.getElem?_eq_getElem c]
      · rw [List.getElem?_append_left c, addD_nil, List.getElem?_eq_getElem c]
    · obtain rfl : i = t.length := by omega
      refine ⟨n, d, ?_, ?_, fun h => ?_⟩
      · rw [List.getElem?_append_right (Nat.le_refl _), Nat.sub_self]; rfl
      · rw [List.getElem?_append_right (Nat.le_refl _), Nat.sub_self]; rfl
      · rw [List.length_append, List.length_singleton] at h; omega
theorem addD_cut (s d : ByteArray) : (s ++ d).extract 0 s.size = s := by
  apply ByteArray.ext
  apply Array.ext'
  have hd : s.data.toList.length = s.size := Array.length_toList
  rw [Lib.extract_data, app_data, List.drop_zero, Nat.sub_zero, ← hd, List.take_left]
end
section
open Go.Proofs.YtpedagpcblnnhaaGreatY
theorem one_is {n : Nd} (h : okN n = true) : one n = oneB n := by
  have h1 := one_f h
  obtain ⟨h0, h1', _⟩ := okN_iff.1 h
  rw [one_b n (by omega) (by omega)] at h1
  exact (Option.some.inj h1).symm
theorem mayT_one : ∀ (l pre : List Nd) (last : ByteArray), mayT pre last l = true → ∀ n ∈ l, one n = true
  | [], _, _, _, n, hn => by cases hn
  | m :: t, pre, last, h, n, hn => by
    unfold mayT at h
    rw [Bool.and_eq_true] at h
    rcases List.mem_cons.1 hn with rfl | hn
    · have := h.1
      unfold step at this
      rw [Bool.and_eq_true] at this
      exact this.1
    · exact mayT_one t _ _ h.2 n hn
theorem mayF_facts {l : List Nd} (hok : ∀ n ∈ l, okN n = true) (h : mayF l = true) : l.length ≤ 20 ∧ ∀ n ∈ l, oneB n = true := by
  unfold mayF at h
  rw [Bool.and_eq_true, decide_eq_true_eq] at h
  exact ⟨h.1, fun n hn => by rw [← one_is (hok n hn)]; exact mayT_one l _ _ h.2 n hn⟩
def bodyB : List Nd → List (List Int)
  | [] => []
  | n :: t => entryB n ++ bodyB t
theorem bodyB_append : ∀ (a b : List Nd), bodyB (a ++ b) = bodyB a ++ bodyB b
  | [], b => rfl
  | n :: a, b => by rw [List.cons_append, bodyB, bodyB, bodyB_append a b, List.append_assoc]
theorem bodyB_snoc (a : List Nd) (n : Nd) : bodyB (a ++ [n]) = bodyB a ++ entryB n := by rw [bodyB_append, bodyB, bodyB, List.append_nil]
def zeroB : List (List Int) := [List.replicate 512 0, List.replicate 512 0]
theorem entryB_few {n : Nd} (h : OneFacts n) : (entryB n).length ≤ 13 := by
  have hd := h.data
  rw [entryB_length h, aheadB_count h]
  unfold manyB
  split <;> split <;> omega
theorem bodyB_few : ∀ (t : List Nd), (∀ n ∈ t, OneFacts n) → (bodyB t).length ≤ 13 * t.length
  | [], _ => by simp [bodyB]
  | n :: t, h => by
    have h1 := entryB_few (h n (.head _))
    have h2 := bodyB_few t (fun m hm => h m (.tail _ hm))
    rw [bodyB, List.length_append, List.length_cons]
    omega
theorem needs2 (n : Nd) : (needsB n.f0 n.f1).2 = decide (100 < n.f1.size) := by
  show decide ((n.f1.size : Int) > 100) = _
  exact decide_eq_decide.2 ⟨fun _ => by omega, fun _ => by omega⟩
theorem entryB_len2 {n : Nd} (h : OneFacts n) : (entryB n).length = (if (needsB n.f0 n.f1).2 = true then 2 else 0) + (if (needsB n.f0 n.f1).1 = true then 2 else 0) + 1 + manyB n.f7.size := by
  rw [entryB_length h, aheadB_count h, needs2]
  by_cases c : 100 < n.f1.size
  · rw [if_pos c, decide_eq_true c, if_pos rfl]
  · rw [if_neg c, decide_eq_false c, if_neg (show ¬ (false = true) by decide)]
end
end Go.Proofs.YtpedagpcblnnhaaGreat.X
