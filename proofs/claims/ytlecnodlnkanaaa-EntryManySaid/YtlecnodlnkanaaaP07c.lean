/- Headers and nodes are told by their blocks. -/
import Derived.Test.YtlecnodlnkanaaaXK
import Derived.Test.YtlecnodlnkanaaaXGtree
import Derived.Test.YtlecnodlnkanaaaXGlong
import Derived.Test.YtlecnodlnkanaaaXGlong
import Derived.Test.YtlecnodlnkanaaaXGhead
import Derived.Test.YtlecnodlnkanaaaYPath
import Derived.Test.YtlecnodlnkanaaaYBytes
import Derived.Test.YtlecnodlnkanaaaYCopy
import Derived.Test.YtlecnodlnkanaaaYConv
import Derived.Test.YtlecnodlnkanaaaPGA
import Derived.Test.YtlecnodlnkanaaaPGA
import Derived.Test.YtlecnodlnkanaaaPGA
import Derived.Test.YtlecnodlnkanaaaPGA
import Derived.Test.YtlecnodlnkanaaaPGA
import Derived.Test.YtlecnodlnkanaaaPGA
import Derived.Test.YtlecnodlnkanaaaPGA
import Derived.Test.YtlecnodlnkanaaaPGA
import Derived.Test.YtlecnodlnkanaaaPGA
import Derived.Test.YtlecnodlnkanaaaPGA
import Derived.Test.YtlecnodlnkanaaaPGA
import Derived.Test.YtlecnodlnkanaaaPGA
import Derived.Test.YtlecnodlnkanaaaP07a
import Derived.Test.YtlecnodlnkanaaaP07b
import Derived.Lib.IndexAny
namespace Go.Proofs.Ytlecnodlnkanaaa.X
open Go.RowKit Go.Proofs.YtlecnodlnkanaaaW.PrintWords Go.Proofs.YtlecnodlnkanaaaW.PrintLast Go.Proofs.YtlecnodlnkanaaaW.PrintMore
attribute [local go_sem] max2_int min2_int max_two min_two max_three min_three max_four min_four
set_option linter.unusedVariables false
set_option linter.unusedSimpArgs false

open Go.Proofs.YtlecnodlnkanaaaY
theorem padTo_inj {n : Nat} {s t : ByteArray} (hs : (0 : UInt8) ∉ s.data.toList) (ht : (0 : UInt8) ∉ t.data.toList) (h : padTo n s = padTo n t) : s = t := by
  have e : ∀ x : ByteArray, padTo n x ++ [0] = bytesOf x ++ 0 :: List.replicate (n - x.size) 0 := fun x => by
    unfold padTo
    rw [List.append_assoc, ← List.replicate_succ, List.replicate_succ']
  refine bytesOf_inj (upto_nought (x := List.replicate (n - s.size) 0) (y := List.replicate (n - t.size) 0) (bytesOf_nought hs) (bytesOf_nought ht) ?_)
  rw [← e s, ← e t, h]
theorem hdOk_noughts {h : Hd} (ho : hdOk h = true) : (0 : UInt8) ∉ h.f0.data.toList ∧ (0 : UInt8) ∉ h.f2.data.toList ∧ (h.f8 ≠ 77 → (0 : UInt8) ∉ h.f1.data.toList) ∧ (h.f8 = 77 → h.f1.size = 0) ∧ (h.f8 ≠ 77 → h.f9 = 0 ∧ h.f10 = 0) := by
  obtain ⟨hw, _⟩ := hdOk_parts ho
  unfold hdOk hdA at ho
  unfold hdWords at hw
  by_cases hM : h.f8 = 77
  · rw [if_pos hM] at hw
    rw [if_pos hM] at ho
    simp only [Bool.and_eq_true] at ho
    simp only [List.cons_append, List.nil_append, List.all_cons, List.all_nil, Bool.and_eq_true, wordOk] at hw
    exact ⟨(noNought_iff _).1 hw.1.2, (noNought_iff _).1 hw.2.1.2, fun hne => absurd hM hne, fun _ => (nil_size' _).1 (beq_iff_eq.1 ho.1.2.2), fun hne => absurd hM hne⟩
  · rw [if_neg hM] at hw
    rw [if_neg hM] at ho
    simp only [Bool.and_eq_true, beq_iff_eq] at ho
    simp only [List.cons_append, List.nil_append, List.all_cons, List.all_nil, Bool.and_eq_true, wordOk] at hw
    exact ⟨(noNought_iff _).1 hw.1.2, (noNought_iff _).1 hw.2.1.2, fun _ => (noNought_iff _).1 hw.2.2.1.2, fun he => absurd he hM, fun _ => ho.1.2.2⟩
theorem empty_of_size {s : ByteArray} (h : s.size = 0) : s = ⟨#[]⟩ := ByteArray.ext (Array.ext' (List.eq_nil_of_length_eq_zero (by rw [Array.length_toList]; exact h)))
theorem hdBlk_inj {g h : Hd} (og : hdOk g = true) (oh : hdOk h = true) (e : hdBlk g = hdBlk h) : g = h := by
  obtain ⟨a0, a2, a1, a1', a9⟩ := hdOk_noughts og
  obtain ⟨b0, b2, b1, b1', b9⟩ := hdOk_noughts oh
  have fg := hdOk_fit og
  have fh := hdOk_fit oh
  have e8 : g.f8 = h.f8 := by rw [← read_type og, ← read_type oh, e]
  have e0 : g.f0 = h.f0 := padTo_inj a0 b0 (by rw [← read_name og, ← read_name oh, e])
  have e2 : g.f2 = h.f2 := padTo_inj a2 b2 (by rw [← read_link og, ← read_link oh, e])
  have e3 : g.f3 = h.f3 := putN_inj fg.2.1.1 fh.2.1.1 (by rw [← read_mode og, ← read_mode oh, e])
  have e4 : g.f4 = h.f4 := putN_inj fg.2.1.2.1 fh.2.1.2.1 (by rw [← read_uid og, ← read_uid oh, e])
  have e5 : g.f5 = h.f5 := putN_inj fg.2.1.2.2.1 fh.2.1.2.2.1 (by rw [← read_gid og, ← read_gid oh, e])
  have e6 : g.f6 = h.f6 := putN_inj fg.2.1.2.2.2.1 fh.2.1.2.2.2.1 (by rw [← read_size og, ← read_size oh, e])
  have e7 : g.f7 = h.f7 := putN_inj fg.2.1.2.2.2.2 fh.2.1.2.2.2.2 (by rw [← read_time og, ← read_time oh, e])
  have e1 : g.f1 = h.f1 ∧ g.f9 = h.f9 ∧ g.f10 = h.f10 := by
    by_cases hM : g.f8 = 77
    · have hM' : h.f8 = 77 := by rw [← e8]; exact hM
      refine ⟨by rw [empty_of_size (a1' hM), empty_of_size (b1' hM')], ?_, ?_⟩
      · exact putN_inj (fg.2.2 hM).1 (fh.2.2 hM').1 (by rw [← read_off og hM, ← read_off oh hM', e])
      · exact putN_inj (fg.2.2 hM).2 (fh.2.2 hM').2 (by rw [← read_real og hM, ← read_real oh hM', e])
    · have hM' : h.f8 ≠ 77 := by rw [← e8]; exact hM
      refine ⟨padTo_inj (a1 hM) (b1 hM') (by rw [← read_prefix og hM, ← read_prefix oh hM', e]), ?_, ?_⟩
      · rw [(a9 hM).1, (b9 hM').1]
      · rw [(a9 hM).2, (b9 hM').2]
  cases g
  cases h
  simp only at e0 e1 e2 e3 e4 e5 e6 e7 e8
  obtain ⟨e1, e9, e10⟩ := e1
  subst e0 e1 e2 e3 e4 e5 e6 e7 e8 e9 e10
  rfl
theorem mayL_text {s : ByteArray} (h : mayL s.data.toList = true) : textB s = true := by
  have hz := mayL_pos h
  have hn := mayL_nought h
  unfold textB
  rw [decide_eq_true (by omega), decide_eq_true (by omega)]
  have : s.data.toList.contains 0 = false := by
    rw [← Bool.not_eq_true]
    exact fun hc => hn (List.contains_iff_mem.1 hc)
  rw [this]
  rfl
/-- What stands ahead of a node that may be: whole texts. -/
theorem aheadB_one {n : Nd} (h : OneFacts n) : aheadB n.f0 n.f1 = (if (needsB n.f0 n.f1).2 = true then longL 75 n.f1 else []) ++ (if (needsB n.f0 n.f1).1 = true then longL 76 n.f0 else []) := by
  unfold aheadB
  have e0 : longB 76 n.f0 = (longL 76 n.f0, true) := by rw [longB_is (.inr rfl), if_pos (mayL_text h.path)]
  rw [e0]
  congr 1
  by_cases c : (needsB n.f0 n.f1).2 = true
  · rw [if_pos c, if_pos c]
    have hbig : 100 < n.f1.size := by unfold needsB at c; simp at c; omega
    have ht : textB n.f1 = true := by
      rcases h.kind with ⟨_, e, _⟩ | ⟨_, e, _⟩ | ⟨_, e, _⟩ | ⟨_, e, _⟩
      · omega
      · exact mayL_text e
      · exact e
      · omega
    rw [longB_is (.inl rfl), if_pos ht]
  · rw [if_neg c, if_neg c]
/-- The type of the first block. -/
def typ (l : List (List Int)) : Int := (l.headD []).getD 156 0
theorem typ_long {kind : Int} {s : ByteArray} (hk : kind = 75 ∨ kind = 76) (hs : s.size ≤ 10000) (r : List (List Int)) : typ (longL kind s ++ r) = kind := by
  have h1 := longHead hk hs
  show ((headPut (longHd kind s)).1).getD 156 0 = kind
  rw [h1]
  exact read_type (longHd_ok hk hs)
theorem typ_main {n : Nd} (h : OneFacts n) (r : List (List Int)) : typ (hdBlk (entryHd n) :: r) = n.f2 := read_type (entryHd_ok h)
theorem longL_text_inj {kind : Int} {s t : ByteArray} (hs : textB s = true) (ht : textB t = true) (h : longL kind s = longL kind t) : s = t := by
  rw [longL_rows (textB_size hs).2, longL_rows (textB_size ht).2] at h
  simp only [List.cons.injEq] at h
  exact (padL_text (textB_nought hs) (textB_nought ht)).1 h.2.1
theorem split_back {a b : ByteArray} (ha : mayL a.data.toList = true) (hb : mayL b.data.toList = true) (sa : (splitR a).2.2 = true) (sb : (splitR b).2.2 = true) (h1 : (splitR a).1 = (splitR b).1) (h2 : (splitR a).2.1 = (splitR b).2.1) : a = b := by
  have app : ∀ {s x y : ByteArray}, mayL s.data.toList = true → s.data.toList = x.data.toList ++ 47 :: y.data.toList → x ≠ ⟨#[]⟩ := fun hm e he => by
    rw [e, mayL_append, Bool.and_eq_true, Bool.and_eq_true] at hm
    exact mayL_ne hm.1.1 (by rw [he])
  rcases splitR_yes sa with ⟨_, ea⟩ | ⟨_, x, y, ea, exy, _, _⟩
  · rcases splitR_yes sb with ⟨_, eb⟩ | ⟨_, x', y', eb, exy', _, _⟩
    · rw [ea, eb] at h2; exact h2
    · rw [ea, eb] at h1; exact absurd h1.symm (app hb exy')
  · rcases splitR_yes sb with ⟨_, eb⟩ | ⟨_, x', y', eb, exy', _, _⟩
    · rw [ea, eb] at h1; exact absurd h1 (app ha exy)
    · rw [ea, eb] at h1 h2
      simp only at h1 h2
      subst h1 h2
      exact ByteArray.ext (Array.ext' (by rw [exy, exy']))
theorem OneFacts.kinds {n : Nd} (h : OneFacts n) : n.f2 = 48 ∨ n.f2 = 49 ∨ n.f2 = 50 ∨ n.f2 = 53 := by
  rcases h.kind with ⟨e, _⟩ | ⟨e, _⟩ | ⟨e, _⟩ | ⟨e, _⟩ <;> omega
theorem OneFacts.linkText {n : Nd} (h : OneFacts n) (c : (needsB n.f0 n.f1).2 = true) : textB n.f1 = true := by
  have hbig : 100 < n.f1.size := by unfold needsB at c; simp at c; omega
  rcases h.kind with ⟨_, e, _⟩ | ⟨_, e, _⟩ | ⟨_, e, _⟩ | ⟨_, e, _⟩
  · omega
  · exact mayL_text e
  · exact e
  · omega
def tailB (n : Nd) : List (List Int) := (if (needsB n.f0 n.f1).1 = true then longL 76 n.f0 else []) ++ (hdBlk (entryHd n) :: cutL n.f7)
theorem entryB_tail {n : Nd} (h : OneFacts n) : entryB n = (if (needsB n.f0 n.f1).2 = true then longL 75 n.f1 else []) ++ tailB n := by
  unfold entryB tailB
  rw [aheadB_one h, List.append_assoc]
theorem typ_tail {n : Nd} (h : OneFacts n) : typ (tailB n) = if (needsB n.f0 n.f1).1 = true then 76 else n.f2 := by
  have hz := mayL_pos h.path
  unfold tailB
  by_cases c : (needsB n.f0 n.f1).1 = true
  · rw [if_pos c, if_pos c]
    exact typ_long (.inr rfl) (by omega) _
  · rw [if_neg c, if_neg c, List.nil_append]
    exact typ_main h _
theorem tail_inj {n m : Nd} (hn : OneFacts n) (hm : OneFacts m) (h : tailB n = tailB m) : (needsB n.f0 n.f1).1 = (needsB m.f0 m.f1).1 ∧ ((needsB n.f0 n.f1).1 = true → n.f0 = m.f0) ∧ hdBlk (entryHd n) = hdBlk (entryHd m) ∧ cutL n.f7 = cutL m.f7 := by
  have zn := mayL_pos hn.path
  have zm := mayL_pos hm.path
  have kn := hn.kinds
  have km := hm.kinds
  have ht := congrArg typ h
  rw [typ_tail hn, typ_tail hm] at ht
  cases cn : (needsB n.f0 n.f1).1 with
  | true =>
    cases cm : (needsB m.f0 m.f1).1 with
    | true =>
      unfold tailB at h
      rw [cn, cm, if_pos rfl, if_pos rfl] at h
      obtain ⟨h1, h2⟩ := List.append_inj h (by rw [longL_two zn.2, longL_two zm.2])
      obtain ⟨h3, h4⟩ := List.cons.inj h2
      exact ⟨rfl, fun _ => longL_text_inj (mayL_text hn.path) (mayL_text hm.path) h1, h3, h4⟩
    | false =>
      rw [cn, cm, if_pos rfl, if_neg (by decide)] at ht
      omega
  | false =>
    cases cm : (needsB m.f0 m.f1).1 with
    | true =>
      rw [cn, cm, if_neg (by decide), if_pos rfl] at ht
      omega
    | false =>
      unfold tailB at h
      rw [cn, cm, if_neg (by decide), if_neg (by decide), List.nil_append, List.nil_append] at h
      obtain ⟨h3, h4⟩ := List.cons.inj h
      exact ⟨rfl, (fun e => by cases e), h3, h4⟩
theorem entryB_inj {n m : Nd} (hn : OneFacts n) (hm : OneFacts m) (h : entryB n = entryB m) : n = m := by
  have zn := mayL_pos hn.path
  have zm := mayL_pos hm.path
  have ln := hn.link
  have lm := hm.link
  have kn := hn.kinds
  have km := hm.kinds
  rw [entryB_tail hn, entryB_tail hm] at h
  have key : (needsB n.f0 n.f1).2 = (needsB m.f0 m.f1).2 ∧ ((needsB n.f0 n.f1).2 = true → n.f1 = m.f1) ∧ tailB n = tailB m := by
    have ht := congrArg typ h
    have tn := typ_tail hn
    have tm := typ_tail hm
    have un : typ (tailB n) ≠ 75 := by rw [tn]; split <;> omega
    have um : typ (tailB m) ≠ 75 := by rw [tm]; split <;> omega
    cases cn : (needsB n.f0 n.f1).2 with
    | true =>
      cases cm : (needsB m.f0 m.f1).2 with
      | true =>
        rw [cn, cm, if_pos rfl, if_pos rfl] at h
        obtain ⟨h1, h2⟩ := List.append_inj h (by rw [longL_two ln.2, longL_two lm.2])
        exact ⟨rfl, fun _ => longL_text_inj (hn.linkText cn) (hm.linkText cm) h1, h2⟩
      | false =>
        rw [cn, cm, if_pos rfl, if_neg (by decide), List.nil_append, typ_long (.inl rfl) (by omega)] at ht
        exact absurd ht.symm um
    | false =>
      cases cm : (needsB m.f0 m.f1).2 with
      | true =>
        rw [cn, cm, if_neg (by decide), if_pos rfl, List.nil_append, typ_long (.inl rfl) (by omega)] at ht
        exact absurd ht un
      | false =>
        rw [cn, cm, if_neg (by decide), if_neg (by decide), List.nil_append, List.nil_append] at h
        exact ⟨rfl, (fun e => by cases e), h⟩
  obtain ⟨kl, hl, htail⟩ := key
  obtain ⟨kp, hp, hblk, hcut⟩ := tail_inj hn hm htail
  have hhd := hdBlk_inj (entryHd_ok hn) (entryHd_ok hm) hblk
  have e0 : (namesB n.f0 n.f1).1 = (namesB m.f0 m.f1).1 := congrArg (fun x : Hd => x.f0) hhd
  have e1 : (namesB n.f0 n.f1).2.1 = (namesB m.f0 m.f1).2.1 := congrArg (fun x : Hd => x.f1) hhd
  have e2 : (namesB n.f0 n.f1).2.2 = (namesB m.f0 m.f1).2.2 := congrArg (fun x : Hd => x.f2) hhd
  have e3 : n.f3 = m.f3 := congrArg (fun x : Hd => x.f3) hhd
  have e4 : n.f4 = m.f4 := congrArg (fun x : Hd => x.f4) hhd
  have e5 : n.f5 = m.f5 := congrArg (fun x : Hd => x.f5) hhd
  have e6 : (n.f7.size : Int) = (m.f7.size : Int) := congrArg (fun x : Hd => x.f6) hhd
  have e7 : n.f6 = m.f6 := congrArg (fun x : Hd => x.f7) hhd
  have e8 : n.f2 = m.f2 := congrArg (fun x : Hd => x.f8) hhd
  have f7 : n.f7 = m.f7 := by
    rw [cutL_eq, cutL_eq] at hcut
    exact bytesOf_inj (cutB_inj (by rw [bytesOf_length, bytesOf_length]; omega) hcut)
  have f1 : n.f1 = m.f1 := by
    cases c : (needsB n.f0 n.f1).2 with
    | true => exact hl c
    | false =>
      have cm : (needsB m.f0 m.f1).2 = false := by rw [← kl]; exact c
      have s1 : ¬ 100 < n.f1.size := by unfold needsB at c; simp at c; omega
      have s2 : ¬ 100 < m.f1.size := by unfold needsB at cm; simp at cm; omega
      have e : shortB n.f1 = shortB m.f1 := e2
      rwa [shortB_few s1, shortB_few s2] at e
  have f0 : n.f0 = m.f0 := by
    cases c : (needsB n.f0 n.f1).1 with
    | true => exact hp c
    | false =>
      have cm : (needsB m.f0 m.f1).1 = false := by rw [← kp]; exact c
      have g : ∀ {a b : ByteArray}, (needsB a b).1 = false → namesB a b = ((splitR a).2.1, (splitR a).1, shortB b) := fun hq => by unfold namesB; rw [hq, if_neg (by decide)]
      rw [g c, g cm] at e0 e1
      exact split_back hn.path hm.path (needs_no hn.path c) (needs_no hm.path cm) e1 e0
  cases n
  cases m
  simp only at f0 f1 e8 e3 e4 e5 e7 f7
  subst f0 f1 e8 e3 e4 e5 e7 f7
  rfl

end Go.Proofs.Ytlecnodlnkanaaa.X
