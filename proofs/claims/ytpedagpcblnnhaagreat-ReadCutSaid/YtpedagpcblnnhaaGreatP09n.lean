import Derived.Test.YtpedagpcblnnhaaGreatXK
import Derived.Test.YtpedagpcblnnhaaGreatXGpj
import Derived.Test.YtpedagpcblnnhaaGreatXGentry
import Derived.Test.YtpedagpcblnnhaaGreatXGhead
import Derived.Test.YtpedagpcblnnhaaGreatXGnum
import Derived.Test.YtpedagpcblnnhaaGreatXGtree
import Derived.Test.YtpedagpcblnnhaaGreatXGlong
import Derived.Test.YtpedagpcblnnhaaGreatXGblock
import Derived.Test.YtpedagpcblnnhaaGreatYAll
import Derived.Test.YtpedagpcblnnhaaGreatPGA
import Derived.Test.YtpedagpcblnnhaaGreatPGE
import Derived.Test.YtpedagpcblnnhaaGreatP02p
import Derived.Test.YtpedagpcblnnhaaGreatP04g
import Derived.Test.YtpedagpcblnnhaaGreatP09a
import Derived.Lib.IndexAny
namespace Go.Proofs.YtpedagpcblnnhaaGreat.X
open Go.RowKit Go.Proofs.YtpedagpcblnnhaaGreatW.PrintWords Go.Proofs.YtpedagpcblnnhaaGreatW.PrintLast Go.Proofs.YtpedagpcblnnhaaGreatW.PrintMore
attribute [local go_sem] max2_int min2_int max_two min_two
set_option linter.unusedVariables false
set_option linter.unusedSimpArgs false
open Go.Proofs.YtpedagpcblnnhaaGreatY
theorem headGet_long {kind : Int} {s : ByteArray} (hk : kind = 75 ∨ kind = 76) (hs : s.size ≤ 10000) : headGet (hdBlk (longHd kind s)) = (longHd kind s, 0) :=
  headGet_put (longHd_ok hk hs) (longHd_in (by omega) hs)
theorem headGet_entry {n : Nd} (h : OneFacts n) : headGet (hdBlk (entryHd n)) = (entryHd n, 0) := headGet_put (entryHd_ok h) (entryHd_in h)
theorem eqHd_iff {s t : Hd} : eqHd s t = true ↔ s = t := by
  obtain ⟨a0, a1, a2, a3, a4, a5, a6, a7, a8, a9, a10⟩ := s
  obtain ⟨b0, b1, b2, b3, b4, b5, b6, b7, b8, b9, b10⟩ := t
  unfold eqHd
  simp only [Bool.and_eq_true, beq_iff_eq]
  constructor
  · rintro ⟨h0, h1, h2, rfl, rfl, rfl, rfl, rfl, rfl, rfl, rfl⟩
    rw [bytes_eq9 h0, bytes_eq9 h1, bytes_eq9 h2]
  · intro h; cases h; exact ⟨rfl, rfl, rfl, rfl, rfl, rfl, rfl, rfl, rfl, rfl, rfl⟩
def hst (nm lk : ByteArray) : Pst := ⟨0, nd00, 0, 0, ⟨#[]⟩, nm, lk⟩
def bare (n : Nd) : Nd := ⟨n.f0, n.f1, n.f2, n.f3, n.f4, n.f5, n.f6, ⟨#[]⟩⟩
def nodeEv (n : Nd) : Evt := ⟨0, bare n, ⟨#[]⟩⟩
def dataEvs (r : List Int) : List Evt := if r.length = 0 then [] else ⟨1, nd00, strOfNums (r.take 512)⟩ :: dataEvs (r.drop 512)
  termination_by r.length
  decreasing_by simp only [List.length_drop]; omega
theorem dataEvs_nil {r : List Int} (h : r.length = 0) : dataEvs r = [] := by rw [dataEvs, if_pos h]
theorem dataEvs_cons {r : List Int} (h : r.length ≠ 0) : dataEvs r = ⟨1, nd00, strOfNums (r.take 512)⟩ :: dataEvs (r.drop 512) := by rw [dataEvs, if_neg h]
def evsOf (n : Nd) : List Evt := nodeEv n :: (dataEvs (bytesOf n.f7) ++ [evOver])
theorem runP_on {s t : Pst} {x : List Int} {l : List (List Int)} {all told : List Evt} {i : Nat} (h : stepR s x = (t, told, 0)) (h5 : t.f0 ≠ 5) : runP s (x :: l) all i = runP t l (all ++ told) (i + 1) := by
  rw [runP, h, if_pos rfl, if_neg h5]
theorem stepR_of {s t : Pst} {x : List Int} {l : List Evt} (h : stepP s x = .ok (t, l)) : stepR s x = (t, l, 0) := by unfold stepR; rw [h]; rfl
theorem stepP_0 {s : Pst} {x : List Int} (hm : mayS s = true) (hx : x.length = 512) (h0 : s.f0 = 0) : stepP s x = headP s x [] := by
  unfold stepP; rw [hm, if_pos (by rw [hx]; rfl), if_pos h0]
theorem stepP_12 {s : Pst} {x : List Int} (hm : mayS s = true) (hx : x.length = 512) (h0 : s.f0 = 1 ∨ s.f0 = 2) : stepP s x = nameP s x [] := by
  unfold stepP; rw [hm, if_pos (by rw [hx]; rfl)]
  rcases h0 with h0 | h0
  · rw [if_neg (by omega), if_pos h0]
  · rw [if_neg (by omega), if_neg (by omega), if_pos h0]
theorem stepP_3 {s : Pst} {x : List Int} (hm : mayS s = true) (hx : x.length = 512) (h0 : s.f0 = 3) : stepP s x = dataP s x [] := by
  unfold stepP; rw [hm, if_pos (by rw [hx]; rfl), if_neg (by omega), if_neg (by omega), if_neg (by omega), if_pos h0]
theorem word_nil : wordB ⟨#[]⟩ = true := by decide +kernel
theorem noT_nil : noT ⟨#[]⟩ = true := noT_iff.2 rfl
theorem text_noT {s : ByteArray} (h : textB s = true) : noT s = false := by
  cases c : noT s with
  | false => rfl
  | true => rw [noT_iff.1 c] at h; revert h; decide +kernel
theorem hst_may {nm lk : ByteArray} (h1 : wordB nm = true) (h2 : wordB lk = true) : mayS (hst nm lk) = true := (may_0i rfl).2 ⟨rfl, h1, h2⟩
theorem textP_long {kind : Int} {s own : ByteArray} {t : Pst} {ph : Int} (hs : textB s = true) (ho : noT own = true) (l : List Evt) : textP t (longHd kind s) own ph l = .ok (⟨ph, t.f1, (s.size : Int) + 1, (s.size : Int) + 1, t.f4, t.f5, t.f6⟩, l) := by
  have hz := textB_size hs
  unfold textP
  rw [if_pos ho, if_pos]
  · rfl
  · rw [Bool.and_eq_true, eqHd_iff, inB3_iff]
    exact ⟨rfl, by show 2 ≤ (s.size : Int) + 1; omega, by show (s.size : Int) + 1 ≤ 301; omega⟩
theorem step_k {nm s : ByteArray} (hw : wordB nm = true) (hs : textB s = true) : stepR (hst nm ⟨#[]⟩) (hdBlk (longHd 75 s)) = (⟨2, nd00, (s.size : Int) + 1, (s.size : Int) + 1, ⟨#[]⟩, nm, ⟨#[]⟩⟩, [], 0) := by
  have hz := textB_size hs
  apply stepR_of
  rw [stepP_0 (hst_may hw word_nil) (hdBlk_length (longHd_ok (.inl rfl) (by omega))) rfl]
  unfold headP
  rw [headGet_long (.inl rfl) (by omega), if_neg (show ¬ (0 : Int) = 4 by decide), if_pos rfl, if_neg (show ¬ ((longHd 75 s, (0 : Int)).1.f8 = 76) from (by decide : ¬ (75 : Int) = 76)), if_pos (show (longHd 75 s, (0 : Int)).1.f8 = 75 from rfl), textP_long (own := (hst nm ⟨#[]⟩).f6) hs noT_nil]
  rfl
theorem step_l {lk s : ByteArray} (hw : wordB lk = true) (hs : textB s = true) : stepR (hst ⟨#[]⟩ lk) (hdBlk (longHd 76 s)) = (⟨1, nd00, (s.size : Int) + 1, (s.size : Int) + 1, ⟨#[]⟩, ⟨#[]⟩, lk⟩, [], 0) := by
  have hz := textB_size hs
  apply stepR_of
  rw [stepP_0 (hst_may word_nil hw) (hdBlk_length (longHd_ok (.inr rfl) (by omega))) rfl]
  unfold headP
  rw [headGet_long (.inr rfl) (by omega), if_neg (show ¬ (0 : Int) = 4 by decide), if_pos rfl, if_pos (show (longHd 76 s, (0 : Int)).1.f8 = 76 from rfl), textP_long (own := (hst ⟨#[]⟩ lk).f5) hs noT_nil]
  rfl
theorem cut_text {s : ByteArray} (hs : textB s = true) : strOfNums ((padL (bytesOf s ++ [0])).take (s.size + 1)) = s ++ ⟨#[0]⟩ ∧ ((padL (bytesOf s ++ [0])).drop (s.size + 1)).all (fun c => c == 0) = true := by
  have hl : (bytesOf s ++ [0]).length = s.size + 1 := by rw [List.length_append, bytesOf_length]; rfl
  unfold padL
  constructor
  · rw [← hl, List.take_left]
    apply ByteArray.ext
    apply Array.ext'
    rw [app_data]
    have h3 : (strOfNums (bytesOf s)).data.toList = s.data.toList := by rw [str_bytesOf]
    have h4 : (strOfNums (bytesOf s)).data.toList = (bytesOf s).map fun n => UInt8.ofNat n.toNat := rfl
    show (bytesOf s ++ [0]).map (fun n : Int => UInt8.ofNat n.toNat) = _
    rw [List.map_append, ← h4, h3]
    rfl
  · rw [← hl, List.drop_left, List.all_replicate]
    simp
theorem ends_cut (s : ByteArray) : endsZ (s ++ ⟨#[0]⟩) = true ∧ cutZ (s ++ ⟨#[0]⟩) = s := by
  have hz : (s ++ (⟨#[0]⟩ : ByteArray)).size = s.size + 1 := ByteArray.size_append
  have hd : s.data.toList.length = s.size := Array.length_toList
  have h1 : endsZ (s ++ ⟨#[0]⟩) = true := by
    unfold endsZ
    rw [hz, decide_eq_true (by omega), Bool.true_and, beq_iff_eq, Lib.toList_data, Lib.extract_data, app_data, Nat.add_sub_cancel, ← hd, List.drop_left]
    simp
  refine ⟨h1, ?_⟩
  unfold cutZ
  rw [if_pos h1, hz]
  apply ByteArray.ext
  apply Array.ext'
  rw [Lib.extract_data, app_data, Nat.add_sub_cancel, List.drop_zero, Nat.sub_zero, ← hd, List.take_left]
theorem nameP_text {s : ByteArray} (hs : textB s = true) {t : Pst} (h2 : t.f2 = (s.size : Int) + 1) (l : List Evt) : nameP t (padL (bytesOf s ++ [0])) l = if t.f0 = 1 then .ok (⟨0, t.f1, 0, 0, t.f4, s, t.f6⟩, l) else .ok (⟨0, t.f1, 0, 0, t.f4, t.f5, s⟩, l) := by
  have e : t.f2.toNat = s.size + 1 := by omega
  unfold nameP
  rw [e, (cut_text hs).1, (cut_text hs).2, (ends_cut s).1, (ends_cut s).2, hs, if_pos (show (true && (true && true)) = true from rfl)]
theorem pad_512 {s : ByteArray} (h : s.size ≤ 300) : (padL (bytesOf s ++ [0])).length = 512 := padL_length (by rw [List.length_append, bytesOf_length]; show s.size + 1 ≤ 512; omega)
theorem step_k2 {nm s : ByteArray} (hw : wordB nm = true) (hs : textB s = true) : stepR ⟨2, nd00, (s.size : Int) + 1, (s.size : Int) + 1, ⟨#[]⟩, nm, ⟨#[]⟩⟩ (padL (bytesOf s ++ [0])) = (hst nm s, [], 0) := by
  have hz := textB_size hs
  apply stepR_of
  rw [stepP_12 ((may_2i rfl).2 ⟨rfl, noT_nil, inB3_iff.2 ⟨by show 2 ≤ (s.size : Int) + 1; omega, by show (s.size : Int) + 1 ≤ 301; omega⟩, hw, word_nil⟩) (pad_512 (by omega)) (.inr rfl), nameP_text hs rfl, if_neg (show ¬ (2 : Int) = 1 by decide)]
  rfl
theorem step_l2 {lk s : ByteArray} (hw : wordB lk = true) (hs : textB s = true) : stepR ⟨1, nd00, (s.size : Int) + 1, (s.size : Int) + 1, ⟨#[]⟩, ⟨#[]⟩, lk⟩ (padL (bytesOf s ++ [0])) = (hst s lk, [], 0) := by
  have hz := textB_size hs
  apply stepR_of
  rw [stepP_12 ((may_1i rfl).2 ⟨rfl, noT_nil, inB3_iff.2 ⟨by show 2 ≤ (s.size : Int) + 1; omega, by show (s.size : Int) + 1 ≤ 301; omega⟩, word_nil, hw⟩) (pad_512 (by omega)) (.inl rfl), nameP_text hs rfl, if_pos (show (1 : Int) = 1 from rfl)]
  rfl
theorem begins_short (s : ByteArray) : beginsB (shortB s) s = true := by
  unfold beginsB shortB
  by_cases c : 100 < s.size
  · rw [if_pos c, show min s.size 100 = 100 by omega, beq_iff_eq]
  · rw [if_neg c, show min s.size 100 = s.size by omega, beq_iff_eq, Lib.toList_data, Lib.toList_data, Lib.extract_data, List.drop_zero, Nat.sub_zero, List.take_of_length_le (by rw [Array.length_toList]; exact Nat.le_refl _)]
theorem join_split {s : ByteArray} (hm : mayL s.data.toList = true) (h : (splitR s).2.2 = true) : pjoinB (splitR s).1 (splitR s).2.1 = s := by
  unfold pjoinB
  rcases splitR_yes h with ⟨_, e⟩ | ⟨_, x, y, e, exy, _, _⟩
  · rw [e, if_pos (show (⟨#[]⟩ : ByteArray).toList = [] by decide +kernel)]
  · have hx : x.data.toList ≠ [] := by
      rw [exy, mayL_append, Bool.and_eq_true, Bool.and_eq_true] at hm
      exact mayL_ne hm.1.1
    rw [e, if_neg (by rw [Lib.toList_data]; exact hx)]
    apply ByteArray.ext
    apply Array.ext'
    rw [app_data, app_data, exy]
    simp
theorem bare_one {n : Nd} (ho : oneB n = true) : oneB (bare n) = true := by
  unfold oneB at ho ⊢
  have hk : oneKind n = true → oneKind (bare n) = true := fun hk => by
    have hz : (bare n).f7.size = 0 := rfl
    unfold oneKind at hk ⊢
    rw [show (bare n).f2 = n.f2 from rfl]
    by_cases c1 : n.f2 = 48
    · rw [if_pos c1] at hk ⊢
      rw [Bool.and_eq_true] at hk ⊢
      exact ⟨hk.1, decide_eq_true (by rw [hz]; omega)⟩
    · rw [if_neg c1] at hk ⊢
      by_cases c2 : n.f2 = 49
      · rw [if_pos c2] at hk ⊢
        simp only [Bool.and_eq_true] at hk ⊢
        exact ⟨⟨hk.1.1, hk.1.2.1, hk.1.2.2.1, hk.1.2.2.2.1, decide_eq_true hz⟩, hk.2⟩
      · rw [if_neg c2] at hk ⊢
        by_cases c3 : n.f2 = 50
        · rw [if_pos c3] at hk ⊢
          rw [Bool.and_eq_true] at hk ⊢
          exact ⟨hk.1, decide_eq_true hz⟩
        · rw [if_neg c3] at hk ⊢
          by_cases c4 : n.f2 = 53
          · rw [if_pos c4] at hk ⊢
            rw [Bool.and_eq_true] at hk ⊢
            exact ⟨hk.1, decide_eq_true hz⟩
          · rw [if_neg c4] at hk; cases hk
  simp only [Bool.and_eq_true] at ho ⊢
  exact ⟨⟨⟨⟨⟨hk ho.1.1.1.1.1, ho.1.1.1.1.2⟩, ho.1.1.1.2⟩, ho.1.1.2⟩, ho.1.2⟩, ho.2⟩
def ownSt (n : Nd) : Pst := hst (if (needsB n.f0 n.f1).1 = true then n.f0 else ⟨#[]⟩) (if (needsB n.f0 n.f1).2 = true then n.f1 else ⟨#[]⟩)
theorem nodeOf_own {n : Nd} (h : OneFacts n) : nodeOf (ownSt n) (entryHd n) = bare n ∧ (noT (ownSt n).f5 || (noT (entryHd n).f1 && beginsB (entryHd n).f0 (ownSt n).f5)) = true ∧ (noT (ownSt n).f6 || beginsB (entryHd n).f2 (ownSt n).f6) = true := by
  have a : (if noT (ownSt n).f5 = true then pjoinB (entryHd n).f1 (entryHd n).f0 else (ownSt n).f5) = n.f0 ∧ (noT (ownSt n).f5 || (noT (entryHd n).f1 && beginsB (entryHd n).f0 (ownSt n).f5)) = true := by
    show (if noT (if (needsB n.f0 n.f1).1 = true then n.f0 else ⟨#[]⟩) = true then pjoinB (splitR n.f0).1 (if (needsB n.f0 n.f1).1 = true then shortB n.f0 else (splitR n.f0).2.1) else (if (needsB n.f0 n.f1).1 = true then n.f0 else ⟨#[]⟩)) = n.f0 ∧ (noT (if (needsB n.f0 n.f1).1 = true then n.f0 else ⟨#[]⟩) || (noT (splitR n.f0).1 && beginsB (if (needsB n.f0 n.f1).1 = true then shortB n.f0 else (splitR n.f0).2.1) (if (needsB n.f0 n.f1).1 = true then n.f0 else ⟨#[]⟩))) = true
    by_cases c : (needsB n.f0 n.f1).1 = true
    · simp only [if_pos c]
      rw [text_noT (mayL_text h.path), needs_split c, begins_short]
      exact ⟨rfl, by decide +kernel⟩
    · simp only [if_neg c]
      rw [noT_nil, if_pos rfl, join_split h.path]
      · exact ⟨rfl, rfl⟩
      · cases d : (splitR n.f0).2.2 with
        | true => rfl
        | false => exact absurd (show (!(splitR n.f0).2.2 && mayL n.f0.data.toList) = true by rw [d, h.path]; rfl) c
  have b : (if noT (ownSt n).f6 = true then (entryHd n).f2 else (ownSt n).f6) = n.f1 ∧ (noT (ownSt n).f6 || beginsB (entryHd n).f2 (ownSt n).f6) = true := by
    show (if noT (if (needsB n.f0 n.f1).2 = true then n.f1 else ⟨#[]⟩) = true then shortB n.f1 else (if (needsB n.f0 n.f1).2 = true then n.f1 else ⟨#[]⟩)) = n.f1 ∧ (noT (if (needsB n.f0 n.f1).2 = true then n.f1 else ⟨#[]⟩) || beginsB (shortB n.f1) (if (needsB n.f0 n.f1).2 = true then n.f1 else ⟨#[]⟩)) = true
    by_cases c : (needsB n.f0 n.f1).2 = true
    · simp only [if_pos c]
      rw [text_noT (h.linkText c), begins_short]
      exact ⟨rfl, rfl⟩
    · simp only [if_neg c]
      rw [noT_nil, if_pos rfl]
      refine ⟨?_, rfl⟩
      unfold shortB
      rw [if_neg]
      intro c2
      apply c
      show decide ((n.f1.size : Int) > 100) = true
      exact decide_eq_true (by omega)
  refine ⟨?_, a.2, b.2⟩
  unfold nodeOf
  rw [a.1, b.1]
  rfl
theorem own_word {n : Nd} (h : OneFacts n) : wordB (ownSt n).f5 = true ∧ wordB (ownSt n).f6 = true := by
  refine ⟨?_, ?_⟩
  · show wordB (if (needsB n.f0 n.f1).1 = true then n.f0 else ⟨#[]⟩) = true
    split
    · exact word_text (mayL_text h.path)
    · exact word_nil
  · show wordB (if (needsB n.f0 n.f1).2 = true then n.f1 else ⟨#[]⟩) = true
    split
    · exact word_text (h.linkText ‹_›)
    · exact word_nil
theorem step_own {n : Nd} (ho : oneB n = true) : stepR (ownSt n) (hdBlk (entryHd n)) = if n.f7.size = 0 then (st0, [nodeEv n, evOver], 0) else (⟨3, bare n, (n.f7.size : Int), (n.f7.size : Int), ⟨#[]⟩, ⟨#[]⟩, ⟨#[]⟩⟩, [nodeEv n], 0) := by
  have h := oneB_facts ho
  have hd := h.data
  obtain ⟨e1, e2, e3⟩ := nodeOf_own h
  have hw := own_word h
  have hk := h.kinds
  have hstep : stepP (ownSt n) (hdBlk (entryHd n)) = if n.f7.size = 0 then .ok (st0, [nodeEv n, evOver]) else .ok (⟨3, bare n, (n.f7.size : Int), (n.f7.size : Int), ⟨#[]⟩, ⟨#[]⟩, ⟨#[]⟩⟩, [nodeEv n]) := by
    rw [stepP_0 (s := ownSt n) (hst_may hw.1 hw.2) (hdBlk_length (entryHd_ok h)) rfl]
    unfold headP
    rw [headGet_entry h, if_neg (show ¬ (0 : Int) = 4 by decide), if_pos rfl, if_neg (show ¬ ((entryHd n, (0 : Int)).1.f8 = 76) from (by omega : ¬ n.f2 = 76)), if_neg (show ¬ ((entryHd n, (0 : Int)).1.f8 = 75) from (by omega : ¬ n.f2 = 75)), if_neg (show ¬ ((entryHd n, (0 : Int)).1.f8 = 77 ∨ (entryHd n, (0 : Int)).1.f8 = 86) from (by omega : ¬ (n.f2 = 77 ∨ n.f2 = 86)))]
    unfold nodeP
    rw [if_pos e2, if_pos e3, e1, if_pos (show mayL (bare n).f0.data.toList = true from h.path), bare_one ho, if_pos]
    · show (if (n.f7.size : Int) = 0 then _ else _) = _
      by_cases c : n.f7.size = 0
      · rw [if_pos c, if_pos (by omega)]; rfl
      · rw [if_neg c, if_neg (by omega)]; rfl
    · rw [Bool.true_and, decide_eq_true_eq]
      show (n.f7.size : Int) ≤ if n.f2 = 48 then 4000 else 0
      rcases h.kind with ⟨c, _, c2⟩ | ⟨c, _, c2, _⟩ | ⟨c, _, c2⟩ | ⟨c, _, c2⟩
      · rw [if_pos c]; omega
      · rw [if_neg (by omega)]; omega
      · rw [if_neg (by omega)]; omega
      · rw [if_neg (by omega)]; omega
  unfold stepR
  rw [hstep]
  split <;> rfl
theorem run_data {n : Nd} (hn : oneB n = true) (h48 : n.f2 = 48) (h7 : n.f7 = ⟨#[]⟩) (sz : Int) (hz : sz ≤ 4000) (more : List (List Int)) : ∀ (d : Nat) (r : List Int), r.length = d → 1 ≤ r.length → (r.length : Int) ≤ sz → (sz - r.length).tmod 512 = 0 → ∀ (all : List Evt) (i : Nat),
    runP ⟨3, n, sz, (r.length : Int), ⟨#[]⟩, ⟨#[]⟩, ⟨#[]⟩⟩ (cutB r ++ more) all i = runP st0 more (all ++ (dataEvs r ++ [evOver])) (i + (cutB r).length) := by
  intro d
  induction d using Nat.strongRecOn with
  | _ d ih =>
  intro r hd h1 h2 h3 all i
  have hm : mayS ⟨3, n, sz, (r.length : Int), ⟨#[]⟩, ⟨#[]⟩, ⟨#[]⟩⟩ = true := (may_3i rfl).2 ⟨rfl, h48, noT_iff.2 h7, hn, inB3_iff.2 ⟨by show 1 ≤ sz; omega, hz⟩, inB3_iff.2 ⟨by show 1 ≤ (r.length : Int); omega, h2⟩, h3⟩
  have hx : (padL (r.take 512)).length = 512 := padL_length (by rw [List.length_take]; omega)
  rw [cutB_cons (by omega), dataEvs_cons (by omega), List.cons_append]
  by_cases c : r.length ≤ 512
  · have hs : stepR ⟨3, n, sz, (r.length : Int), ⟨#[]⟩, ⟨#[]⟩, ⟨#[]⟩⟩ (padL (r.take 512)) = (st0, [⟨1, nd00, strOfNums (r.take 512)⟩, evOver], 0) := by
      apply stepR_of
      rw [stepP_3 hm hx rfl]
      unfold dataP
      rw [if_pos (show (r.length : Int) ≤ 512 by omega)]
      show Except.ok (st0, ([] ++ [⟨1, nd00, strOfNums ((padL (r.take 512)).take (r.length : Int).toNat)⟩]) ++ [evOver]) = _
      rw [List.take_of_length_le c, Int.toNat_natCast]
      unfold padL
      rw [List.take_left]
      rfl
    rw [runP_on hs (by decide), cutB_nil (by rw [List.length_drop]; omega), dataEvs_nil (by rw [List.length_drop]; omega)]
    rfl
  · have hs : stepR ⟨3, n, sz, (r.length : Int), ⟨#[]⟩, ⟨#[]⟩, ⟨#[]⟩⟩ (padL (r.take 512)) = (⟨3, n, sz, ((r.drop 512).length : Int), ⟨#[]⟩, ⟨#[]⟩, ⟨#[]⟩⟩, [⟨1, nd00, strOfNums (r.take 512)⟩], 0) := by
      apply stepR_of
      rw [stepP_3 hm hx rfl]
      unfold dataP
      rw [if_neg (show ¬ (r.length : Int) ≤ 512 by omega)]
      have ht : (padL (r.take 512)).take 512 = r.take 512 := by
        have hl : (r.take 512).length = 512 := by rw [List.length_take]; omega
        unfold padL
        rw [List.take_append_of_le_length (by omega), List.take_of_length_le (by omega)]
      rw [ht]
      show Except.ok ((⟨3, n, sz, (r.length : Int) - 512, ⟨#[]⟩, ⟨#[]⟩, ⟨#[]⟩⟩ : Pst), _) = _
      rw [show (r.length : Int) - 512 = ((r.drop 512).length : Int) by rw [List.length_drop]; omega]
      rfl
    have hl : (r.drop 512).length = r.length - 512 := List.length_drop
    rw [runP_on hs (by show (3 : Int) ≠ 5; decide), ih _ (by omega) (r.drop 512) rfl (by omega) (by omega) (by
      rw [Int.tmod_eq_emod_of_nonneg (by omega)] at h3 ⊢
      omega), List.length_cons, List.append_assoc, show i + 1 + (cutB (r.drop 512)).length = i + ((cutB (r.drop 512)).length + 1) by omega]
    rfl
theorem run_own {n : Nd} (ho : oneB n = true) (more : List (List Int)) (all : List Evt) (i : Nat) : runP (ownSt n) (hdBlk (entryHd n) :: (cutL n.f7 ++ more)) all i = runP st0 more (all ++ evsOf n) (i + (1 + (cutL n.f7).length)) := by
  have h := oneB_facts ho
  have hd := h.data
  have hb := bytesOf_length n.f7
  have hs := step_own ho
  unfold evsOf
  rw [cutL_eq]
  by_cases c : n.f7.size = 0
  · rw [if_pos c] at hs
    rw [runP_on hs (by decide), cutB_nil (by rw [hb]; exact c), dataEvs_nil (by rw [hb]; exact c)]
    rfl
  · rw [if_neg c] at hs
    have h48 : n.f2 = 48 := by
      rcases h.kind with ⟨e, _⟩ | ⟨_, _, e, _⟩ | ⟨_, _, e⟩ | ⟨_, _, e⟩
      · exact e
      all_goals exact absurd e c
    have hr := run_data (n := bare n) (bare_one ho) h48 rfl (n.f7.size : Int) (by omega) more _ (bytesOf n.f7) rfl (by omega) (by omega) (by rw [hb, Int.sub_self]; rfl) (all ++ [nodeEv n]) (i + 1)
    rw [hb] at hr
    rw [runP_on hs (by show (3 : Int) ≠ 5; decide), hr, List.append_assoc, Nat.add_assoc]
    rfl
theorem run_node {n : Nd} (ho : oneB n = true) (more : List (List Int)) (all : List Evt) (i : Nat) : runP st0 (entryB n ++ more) all i = runP st0 more (all ++ evsOf n) (i + (entryB n).length) := by
  have h := oneB_facts ho
  have hz := mayL_pos h.path
  have hl := h.link
  have hown := fun all i => run_own ho more all i
  have hw := own_word h
  have hap : ∀ (lk : ByteArray) (hlk : wordB lk = true) (all : List Evt) (i : Nat), runP (hst ⟨#[]⟩ lk) ((if (needsB n.f0 n.f1).1 = true then longL 76 n.f0 else []) ++ (hdBlk (entryHd n) :: (cutL n.f7 ++ more))) all i = runP (hst (if (needsB n.f0 n.f1).1 = true then n.f0 else ⟨#[]⟩) lk) (hdBlk (entryHd n) :: (cutL n.f7 ++ more)) all (i + (if (needsB n.f0 n.f1).1 = true then longL 76 n.f0 else []).length) := fun lk hlk all i => by
    by_cases c : (needsB n.f0 n.f1).1 = true
    · simp only [if_pos c]
      have ht := mayL_text h.path
      rw [longL_rows hz.2, longHead (.inr rfl) (by omega), List.cons_append, List.cons_append, List.nil_append, runP_on (step_l hlk ht) (by show (1 : Int) ≠ 5; decide), runP_on (step_l2 hlk ht) (by show (0 : Int) ≠ 5; decide), List.append_nil, List.append_nil]
      rfl
    · simp only [if_neg c]
      rfl
  have hak : ∀ (all : List Evt) (i : Nat) (L : List (List Int)), runP (hst ⟨#[]⟩ ⟨#[]⟩) ((if (needsB n.f0 n.f1).2 = true then longL 75 n.f1 else []) ++ L) all i = runP (hst ⟨#[]⟩ (if (needsB n.f0 n.f1).2 = true then n.f1 else ⟨#[]⟩)) L all (i + (if (needsB n.f0 n.f1).2 = true then longL 75 n.f1 else []).length) := fun all i L => by
    by_cases c : (needsB n.f0 n.f1).2 = true
    · simp only [if_pos c]
      have ht := h.linkText c
      rw [longL_rows hl.2, longHead (.inl rfl) (by omega), List.cons_append, List.cons_append, List.nil_append, runP_on (step_k word_nil ht) (by show (2 : Int) ≠ 5; decide), runP_on (step_k2 word_nil ht) (by show (0 : Int) ≠ 5; decide), List.append_nil, List.append_nil]
      rfl
    · simp only [if_neg c]
      rfl
  have hlen : (entryB n).length = (if (needsB n.f0 n.f1).2 = true then longL 75 n.f1 else []).length + (if (needsB n.f0 n.f1).1 = true then longL 76 n.f0 else []).length + (1 + (cutL n.f7).length) := by
    unfold entryB
    rw [aheadB_one h, List.length_append, List.length_append, List.length_cons, Nat.add_comm 1]
  have hsp : entryB n ++ more = (if (needsB n.f0 n.f1).2 = true then longL 75 n.f1 else []) ++ ((if (needsB n.f0 n.f1).1 = true then longL 76 n.f0 else []) ++ (hdBlk (entryHd n) :: (cutL n.f7 ++ more))) := by
    unfold entryB
    rw [aheadB_one h, List.append_assoc, List.append_assoc, List.cons_append]
  rw [hsp, hlen]
  show runP (hst ⟨#[]⟩ ⟨#[]⟩) _ all i = _
  rw [hak, hap (if (needsB n.f0 n.f1).2 = true then n.f1 else ⟨#[]⟩) hw.2, show hst (if (needsB n.f0 n.f1).1 = true then n.f0 else ⟨#[]⟩) (if (needsB n.f0 n.f1).2 = true then n.f1 else ⟨#[]⟩) = ownSt n from rfl, hown]
  congr 1
  omega
end Go.Proofs.YtpedagpcblnnhaaGreat.X
