/- The parser, plainly. -/
import Derived.Test.YtoahjigjlgcjkaaXK
import Derived.Test.YtoahjigjlgcjkaaXGpj
import Derived.Test.YtoahjigjlgcjkaaXGpmay
import Derived.Test.YtoahjigjlgcjkaaYAll
import Derived.Test.YtoahjigjlgcjkaaYAll
import Derived.Test.YtoahjigjlgcjkaaYAll
import Derived.Test.YtoahjigjlgcjkaaYAll
import Derived.Test.YtoahjigjlgcjkaaPGA
import Derived.Test.YtoahjigjlgcjkaaPGA
import Derived.Test.YtoahjigjlgcjkaaPGA
import Derived.Test.YtoahjigjlgcjkaaPGA
import Derived.Test.YtoahjigjlgcjkaaPGA
import Derived.Test.YtoahjigjlgcjkaaPGE
import Derived.Test.YtoahjigjlgcjkaaPGE
import Derived.Test.YtoahjigjlgcjkaaP04g
namespace Go.Proofs.Ytoahjigjlgcjkaa.X
open Go.RowKit Go.Proofs.YtoahjigjlgcjkaaW.PrintWords Go.Proofs.YtoahjigjlgcjkaaW.PrintLast Go.Proofs.YtoahjigjlgcjkaaW.PrintMore
attribute [local go_sem] max2_int min2_int max_two min_two
set_option linter.unusedVariables false
set_option linter.unusedSimpArgs false

open Go.Proofs.YtoahjigjlgcjkaaY
set_option maxRecDepth 100000
theorem bytes_eq9 {a b : ByteArray} (e : a.toList = b.toList) : a = b := by
  rw [ByteArray.toList_eq, ByteArray.toList_eq] at e
  exact ByteArray.ext (Array.ext' e)
theorem eqSt_iff {s t : Pst} : eqSt s t = true ↔ s = t := by
  obtain ⟨a0, ⟨a1, a2, a3, a4, a5, a6, a7, a8⟩, a9, a10, a11, a12, a13⟩ := s
  obtain ⟨b0, ⟨b1, b2, b3, b4, b5, b6, b7, b8⟩, b9, b10, b11, b12, b13⟩ := t
  unfold eqSt
  simp only [Bool.and_eq_true, beq_iff_eq]
  constructor
  · rintro ⟨rfl, ⟨h1, h2, rfl, rfl, rfl, rfl, rfl, h8⟩, rfl, rfl, h11, h12, h13⟩
    rw [bytes_eq9 h1, bytes_eq9 h2, bytes_eq9 h8, bytes_eq9 h11, bytes_eq9 h12, bytes_eq9 h13]
  · intro h; cases h; exact ⟨rfl, ⟨rfl, rfl, rfl, rfl, rfl, rfl, rfl, rfl⟩, rfl, rfl, rfl, rfl, rfl⟩
theorem eqSt_self (s : Pst) : eqSt s s = true := eqSt_iff.2 rfl
theorem noT_iff {s : ByteArray} : noT s = true ↔ s = ⟨#[]⟩ := by
  unfold noT
  rw [beq_iff_eq]
  exact ⟨fun h => bytes_eq9 (h.trans (by decide +kernel)), fun h => by rw [h]; decide +kernel⟩
theorem inB3_iff {n a b : Int} : inB3 n a b = true ↔ a ≤ n ∧ n ≤ b := by
  unfold inB3
  rw [Bool.and_eq_true, decide_eq_true_eq, decide_eq_true_eq]
def zst (k : Int) : Pst := ⟨k, nd00, 0, 0, ⟨#[]⟩, ⟨#[]⟩, ⟨#[]⟩⟩
theorem zst_may {k : Int} (h : k = 0 ∨ k = 4 ∨ k = 5) : mayS (zst k) = true := by
  rcases h with rfl | rfl | rfl <;> decide +kernel
/-- What may be, by its phase. -/
theorem may_0i {s : Pst} (h0 : s.f0 = 0) : mayS s = true ↔ s = ⟨0, nd00, 0, 0, ⟨#[]⟩, s.f5, s.f6⟩ ∧ wordB s.f5 = true ∧ wordB s.f6 = true := by
  unfold mayS; rw [if_pos h0, Bool.and_eq_true, Bool.and_eq_true, eqSt_iff]
theorem may_1i {s : Pst} (h0 : s.f0 = 1) : mayS s = true ↔ s = ⟨1, nd00, s.f2, s.f2, ⟨#[]⟩, s.f5, s.f6⟩ ∧ noT s.f5 = true ∧ inB3 s.f2 2 301 = true ∧ wordB s.f5 = true ∧ wordB s.f6 = true := by
  unfold mayS; rw [if_neg (by omega), if_pos h0, Bool.and_eq_true, Bool.and_eq_true, Bool.and_eq_true, Bool.and_eq_true, eqSt_iff]
theorem may_2i {s : Pst} (h0 : s.f0 = 2) : mayS s = true ↔ s = ⟨2, nd00, s.f2, s.f2, ⟨#[]⟩, s.f5, s.f6⟩ ∧ noT s.f6 = true ∧ inB3 s.f2 2 301 = true ∧ wordB s.f5 = true ∧ wordB s.f6 = true := by
  unfold mayS; rw [if_neg (by omega), if_neg (by omega), if_pos h0, Bool.and_eq_true, Bool.and_eq_true, Bool.and_eq_true, Bool.and_eq_true, eqSt_iff]
theorem may_3i {s : Pst} (h0 : s.f0 = 3) : mayS s = true ↔ s = ⟨3, s.f1, s.f2, s.f3, ⟨#[]⟩, ⟨#[]⟩, ⟨#[]⟩⟩ ∧ s.f1.f2 = 48 ∧ noT s.f1.f7 = true ∧ oneB s.f1 = true ∧ inB3 s.f2 1 4000 = true ∧ inB3 s.f3 1 s.f2 = true ∧ (s.f2 - s.f3).tmod 512 = 0 := by
  unfold mayS; rw [if_neg (by omega), if_neg (by omega), if_neg (by omega), if_pos h0]
  simp only [Bool.and_eq_true, eqSt_iff, beq_iff_eq]
theorem may_4i {s : Pst} (h0 : s.f0 = 4) : mayS s = true ↔ s = zst 4 := by
  unfold mayS; rw [if_neg (by omega), if_neg (by omega), if_neg (by omega), if_neg (by omega), if_pos h0, eqSt_iff]; exact Iff.rfl
theorem may_5i {s : Pst} (h0 : s.f0 = 5) : mayS s = true ↔ s = zst 5 := by
  unfold mayS; rw [if_neg (by omega), if_neg (by omega), if_neg (by omega), if_neg (by omega), if_neg (by omega), if_pos h0, eqSt_iff]; exact Iff.rfl
theorem word_text {s : ByteArray} (h : textB s = true) : wordB s = true := by unfold wordB; rw [h, Bool.or_true]
theorem textP_may {s : Pst} {h : Hd} {l l' : List Evt} {t : Pst} {own : ByteArray} {ph : Int} (hm : mayS s = true) (h0 : s.f0 = 0) (hp : (ph = 1 ∧ own = s.f5) ∨ (ph = 2 ∧ own = s.f6)) (e : textP s h own ph l = .ok (t, l')) : mayS t = true := by
  obtain ⟨hs, h5, h6⟩ := (may_0i h0).1 hm
  have s1 : s.f1 = nd00 := by rw [hs]
  have s4 : s.f4 = ⟨#[]⟩ := by rw [hs]
  unfold textP at e
  split at e
  · rename_i hn
    split at e
    · rename_i hq
      rw [Bool.and_eq_true] at hq
      cases e
      rcases hp with ⟨rfl, rfl⟩ | ⟨rfl, rfl⟩
      · exact (may_1i rfl).2 ⟨by show (_ : Pst) = _; rw [s1, s4], hn, hq.2, h5, h6⟩
      · exact (may_2i rfl).2 ⟨by show (_ : Pst) = _; rw [s1, s4], hn, hq.2, h5, h6⟩
    · cases e
  · cases e
theorem nodeP_may {s : Pst} {h : Hd} {l l' : List Evt} {t : Pst} (h6 : 0 ≤ h.f6) (e : nodeP s h l = .ok (t, l')) : mayS t = true := by
  unfold nodeP at e
  obtain ⟨MX, hMX⟩ : ∃ MX : Int, (if h.f8 = 48 then 4000 else 0) = MX := ⟨_, rfl⟩
  rw [hMX] at e
  split at e
  · split at e
    · split at e
      · split at e
        · rename_i _ _ _ ho
          rw [Bool.and_eq_true, decide_eq_true_eq] at ho
          split at e
          · cases e; exact zst_may (.inl rfl)
          · rename_i hz
            have h48 : h.f8 = 48 := by
              by_cases c : h.f8 = 48
              · exact c
              · rw [if_neg c] at hMX; omega
            rw [if_pos h48] at hMX
            cases e
            exact (may_3i rfl).2 ⟨rfl, h48, noT_iff.2 rfl, ho.1, inB3_iff.2 ⟨by show 1 ≤ h.f6; omega, by show h.f6 ≤ 4000; omega⟩, inB3_iff.2 ⟨by show 1 ≤ h.f6; omega, Int.le_refl _⟩, by show (h.f6 - h.f6).tmod 512 = 0; rw [Int.sub_self]; rfl⟩
        · cases e
      · cases e
    · cases e
  · cases e
theorem getN_nonneg (l : List Int) : 0 ≤ (getN l).1 := by
  unfold getN
  split
  · exact Int.le_refl _
  · split
    · exact Int.le_refl _
    · rename_i n _
      split
      · rename_i hp
        show 0 ≤ n
        by_cases hn : n < 0
        · have h1 := hp.1
          unfold putN at h1
          rw [if_pos (.inl hn)] at h1
          cases h1
        · omega
      · exact Int.le_refl _
theorem headGet_size (x : List Int) (hby : ∀ y ∈ x, 0 ≤ y ∧ y ≤ 255) : 0 ≤ (headGet x).1.f6 := by
  unfold headGet
  split
  · exact Int.le_refl _
  · split
    · exact Int.le_refl _
    · split
      · exact Int.le_refl _
      · split
        · exact getN_nonneg _
        · exact Int.le_refl _
theorem headP_may {s : Pst} {x : List Int} {l l' : List Evt} {t : Pst} (hm : mayS s = true) (h0 : s.f0 = 0) (hby : ∀ y ∈ x, 0 ≤ y ∧ y ≤ 255) (e : headP s x l = .ok (t, l')) : mayS t = true := by
  obtain ⟨hs, h5, h6⟩ := (may_0i h0).1 hm
  unfold headP at e
  split at e
  · split at e
    · rename_i hn
      rw [Bool.and_eq_true, noT_iff, noT_iff] at hn
      cases e
      refine (may_4i rfl).2 ?_
      show (⟨4, s.f1, s.f2, s.f3, s.f4, s.f5, s.f6⟩ : Pst) = zst 4
      rw [hn.1, hn.2, hs]; rfl
    · cases e
  · split at e
    · split at e
      · exact textP_may hm h0 (.inl ⟨rfl, rfl⟩) e
      · split at e
        · exact textP_may hm h0 (.inr ⟨rfl, rfl⟩) e
        · split at e
          · cases e
          · exact nodeP_may (headGet_size x hby) e
    · cases e
theorem nameP_may {s : Pst} {x : List Int} {l l' : List Evt} {t : Pst} (hm : mayS s = true) (h0 : s.f0 = 1 ∨ s.f0 = 2) (e : nameP s x l = .ok (t, l')) : mayS t = true := by
  have hs : s.f1 = nd00 ∧ s.f4 = ⟨#[]⟩ ∧ wordB s.f5 = true ∧ wordB s.f6 = true := by
    rcases h0 with h0 | h0
    · obtain ⟨hs, _, _, h5, h6⟩ := (may_1i h0).1 hm; exact ⟨by rw [hs], by rw [hs], h5, h6⟩
    · obtain ⟨hs, _, _, h5, h6⟩ := (may_2i h0).1 hm; exact ⟨by rw [hs], by rw [hs], h5, h6⟩
  obtain ⟨s1, s4, h5, h6⟩ := hs
  unfold nameP at e
  split at e
  · rename_i hq
    rw [Bool.and_eq_true, Bool.and_eq_true] at hq
    split at e
    · cases e
      exact (may_0i rfl).2 ⟨by show (_ : Pst) = _; rw [s1, s4], word_text hq.2.1, h6⟩
    · cases e
      exact (may_0i rfl).2 ⟨by show (_ : Pst) = _; rw [s1, s4], h5, word_text hq.2.1⟩
  · cases e
theorem dataP_may {s : Pst} {x : List Int} {l l' : List Evt} {t : Pst} (hm : mayS s = true) (h0 : s.f0 = 3) (e : dataP s x l = .ok (t, l')) : mayS t = true := by
  obtain ⟨hs, h48, h7, ho, h2, h3, hmod⟩ := (may_3i h0).1 hm
  obtain ⟨a2, b2⟩ := inB3_iff.1 h2
  obtain ⟨a3, b3⟩ := inB3_iff.1 h3
  have s4 : s.f4 = ⟨#[]⟩ := by rw [hs]
  have s5 : s.f5 = ⟨#[]⟩ := by rw [hs]
  have s6 : s.f6 = ⟨#[]⟩ := by rw [hs]
  unfold dataP at e
  split at e
  · cases e; exact zst_may (.inl rfl)
  · rename_i hk
    cases e
    refine (may_3i (s := ⟨s.f0, s.f1, s.f2, s.f3 - 512, s.f4, s.f5, s.f6⟩) h0).2 ⟨by show (_ : Pst) = _; rw [h0, s4, s5, s6], h48, h7, ho, h2, inB3_iff.2 ⟨by show 1 ≤ s.f3 - 512; omega, by show s.f3 - 512 ≤ s.f2; omega⟩, ?_⟩
    show (s.f2 - (s.f3 - 512)).tmod 512 = 0
    rw [Int.tmod_eq_emod_of_nonneg (by omega)] at hmod ⊢
    omega
theorem stepP_may {s : Pst} {x : List Int} {l : List Evt} {t : Pst} (hby : ∀ y ∈ x, 0 ≤ y ∧ y ≤ 255) (e : stepP s x = .ok (t, l)) : mayS s = true ∧ x.length = 512 ∧ mayS t = true := by
  unfold stepP at e
  split at e
  · rename_i hq
    rw [Bool.and_eq_true, decide_eq_true_eq] at hq
    refine ⟨hq.1, hq.2, ?_⟩
    split at e
    · exact headP_may hq.1 ‹_› hby e
    · split at e
      · exact nameP_may hq.1 (.inl ‹_›) e
      · split at e
        · exact nameP_may hq.1 (.inr ‹_›) e
        · split at e
          · exact dataP_may hq.1 ‹_› e
          · split at e
            · rename_i h4
              have hs := (may_4i h4).1 hq.1
              unfold zeroP at e
              split at e
              · cases e
                refine (may_5i rfl).2 ?_
                show (⟨5, s.f1, s.f2, s.f3, s.f4, s.f5, s.f6⟩ : Pst) = zst 5
                rw [hs]; rfl
              · cases e
            · cases e
  · cases e
/-- A step's error is none of the noughts. -/
theorem stepP_err {s : Pst} {x : List Int} {k : Int} (e : stepP s x = .error k) : k ≠ 0 := by
  have txt : ∀ {h : Hd} {own : ByteArray} {ph : Int} {l : List Evt}, textP s h own ph l = .error k → k ≠ 0 := fun e => by
    unfold textP at e; split at e
    · split at e
      · cases e
      · cases e; decide
    · cases e; decide
  unfold stepP at e
  split at e
  · split at e
    · unfold headP at e
      split at e
      · split at e
        · cases e
        · cases e; decide
      · split at e
        · split at e
          · exact txt e
          · split at e
            · exact txt e
            · split at e
              · cases e; decide
              · unfold nodeP at e
                generalize (if (headGet x).1.f8 = 48 then (4000 : Int) else 0) = MX at e
                split at e
                · split at e
                  · split at e
                    · split at e
                      · split at e <;> cases e
                      · cases e; decide
                    · cases e; decide
                  · cases e; decide
                · cases e; decide
        · rename_i hk
          cases e; exact hk
    · have nam : nameP s x [] = .error k → k ≠ 0 := fun e => by
        unfold nameP at e; split at e
        · split at e <;> cases e
        · cases e; decide
      split at e
      · exact nam e
      · split at e
        · exact nam e
        · split at e
          · unfold dataP at e; split at e <;> cases e
          · split at e
            · unfold zeroP at e; split at e
              · cases e
              · cases e; decide
            · cases e; decide
  · cases e; decide
theorem stepR_ok2 {s : Pst} {x : List Int} (hby : ∀ y ∈ x, 0 ≤ y ∧ y ≤ 255) (h : (stepR s x).2.2 = 0) : mayS s = true ∧ x.length = 512 ∧ mayS (stepR s x).1 = true ∧ stepP s x = .ok ((stepR s x).1, (stepR s x).2.1) := by
  unfold stepR at h ⊢
  cases e : stepP s x with
  | error k => rw [e] at h; exact absurd h (stepP_err e)
  | ok r => obtain ⟨t, l⟩ := r; have := stepP_may hby e; exact ⟨this.1, this.2.1, this.2.2, rfl⟩
theorem stepR_no {s : Pst} {x : List Int} (h : (stepR s x).2.2 ≠ 0) : (stepR s x).1 = s ∧ (stepR s x).2.1 = [] := by
  unfold stepR at h ⊢
  cases e : stepP s x with
  | error k => exact ⟨rfl, rfl⟩
  | ok r => obtain ⟨t, l⟩ := r; rw [e] at h; exact absurd rfl h
def z512 : List Int := List.replicate 512 0
theorem z512_len : z512.length = 512 := List.length_replicate
theorem z512_all : z512.all (fun c => c == 0) = true := by unfold z512; rw [List.all_replicate]; rfl
theorem headGet_z : (headGet z512).2 = 4 := by
  unfold headGet
  rw [if_neg (by rw [z512_len]; decide), if_pos z512_all]
theorem step_z0 : stepR (zst 0) z512 = (zst 4, [], 0) := by
  unfold stepR stepP
  rw [zst_may (.inl rfl), if_pos (by rw [z512_len]; rfl), if_pos (show (zst 0).f0 = 0 from rfl)]
  unfold headP
  rw [if_pos headGet_z, if_pos (by rw [show noT (zst 0).f5 = true from noT_iff.2 rfl, show noT (zst 0).f6 = true from noT_iff.2 rfl]; rfl)]
  rfl
theorem step_z4 : stepR (zst 4) z512 = (zst 5, [], 0) := by
  unfold stepR stepP
  rw [zst_may (.inr (.inl rfl)), if_pos (by rw [z512_len]; rfl), if_neg (by decide), if_neg (by decide), if_neg (by decide), if_neg (by decide), if_pos (show (zst 4).f0 = 4 from rfl)]
  unfold zeroP
  rw [if_pos z512_all]
  rfl
theorem step_z5 {x : List Int} (hx : x.length = 512) : stepR (zst 5) x = (zst 5, [], 17) := by
  unfold stepR stepP
  rw [zst_may (.inr (.inr rfl)), if_pos (by rw [hx]; rfl), if_neg (by decide), if_neg (by decide), if_neg (by decide), if_neg (by decide), if_neg (by decide)]
  rfl
theorem run_z : runR (zst 0) [z512, z512, z512] = (zst 5, [], 2, 0) := by
  unfold runR
  simp only [runP, step_z0, step_z4]
  rfl

end Go.Proofs.Ytoahjigjlgcjkaa.X
