/- What cont.Get tells, plainly. -/
import Derived.Test.YtekfgmpldgoglaaXK
import Derived.Test.YtekfgmpldgoglaaXGtree
import Derived.Test.YtekfgmpldgoglaaXGhead
import Derived.Test.YtekfgmpldgoglaaXGnum
import Derived.Test.YtekfgmpldgoglaaXGlong
import Derived.Test.YtekfgmpldgoglaaXGlong
import Derived.Test.YtekfgmpldgoglaaXGblock
import Derived.Test.YtekfgmpldgoglaaXGblock
import Derived.Test.YtekfgmpldgoglaaXGblock
import Derived.Test.YtekfgmpldgoglaaXGtrim
import Derived.Test.YtekfgmpldgoglaaYAll
import Derived.Test.YtekfgmpldgoglaaYAll
import Derived.Test.YtekfgmpldgoglaaYAll
import Derived.Test.YtekfgmpldgoglaaYAll
import Derived.Test.YtekfgmpldgoglaaPGA
import Derived.Test.YtekfgmpldgoglaaPGA
import Derived.Test.YtekfgmpldgoglaaPGA
import Derived.Test.YtekfgmpldgoglaaPGA
import Derived.Test.YtekfgmpldgoglaaPGA
import Derived.Test.YtekfgmpldgoglaaPGA
import Derived.Test.YtekfgmpldgoglaaPGA
import Derived.Test.YtekfgmpldgoglaaPGA
import Derived.Test.YtekfgmpldgoglaaPGA
import Derived.Test.YtekfgmpldgoglaaPGA
import Derived.Test.YtekfgmpldgoglaaPGA
import Derived.Test.YtekfgmpldgoglaaPGA
import Derived.Test.YtekfgmpldgoglaaPGA
import Derived.Test.YtekfgmpldgoglaaPGA
import Derived.Test.YtekfgmpldgoglaaPGE
import Derived.Test.YtekfgmpldgoglaaPGE
import Derived.Test.YtekfgmpldgoglaaPGE
import Derived.Test.YtekfgmpldgoglaaPGE
import Derived.Test.YtekfgmpldgoglaaP04f
import Derived.Test.YtekfgmpldgoglaaP04g
import Derived.Test.YtekfgmpldgoglaaPGE
import Derived.Test.YtekfgmpldgoglaaPGE
import Derived.Test.YtekfgmpldgoglaaP15a
import Derived.Lib.IndexAny
namespace Go.Proofs.Ytekfgmpldgoglaa.X
open Go.RowKit Go.Proofs.YtekfgmpldgoglaaW.PrintWords Go.Proofs.YtekfgmpldgoglaaW.PrintLast Go.Proofs.YtekfgmpldgoglaaW.PrintMore
attribute [local go_sem] max2_int min2_int max_two min_two
set_option linter.unusedVariables false
set_option linter.unusedSimpArgs false

open Go.Proofs.YtekfgmpldgoglaaY
/-- 'next' of Get: the header of a block, if there is one. -/
def contNext (l : List (List Int)) (i : Nat) : Hd × Bool := if i < l.length then ((headGet (rdR l i)).1, (headGet (rdR l i)).2 == 0) else (hd0, false)
/-- The node that a header tells. -/
def contNd (nm : ByteArray) (h : Hd) : Nd := ⟨nm, ⟨#[]⟩, 48, h.f3, h.f4, h.f5, h.f7, ⟨#[]⟩⟩
def contFits (nm : ByteArray) (h : Hd) : Bool := mayL nm.data.toList && (oneB (contNd nm h) && (decide (h.f10 ≤ 4000) && (decide (h.f9 < h.f10) && decide (h.f9 % 512 = 0))))
def noGet : Nd × Int × Int × Int × Bool := (⟨⟨#[]⟩, ⟨#[]⟩, 0, 0, 0, 0, 0, ⟨#[]⟩⟩, 0, 0, 0, false)
def contName (nm : ByteArray) (h : Hd) : ByteArray := if nm.size = 0 then h.f0 else nm
/-- What Get does behind the last header, of k blocks. -/
def contEnd (l : List (List Int)) (k : Nat) (nm : ByteArray) (r : Hd × Bool) : Nd × Int × Int × Int × Bool :=
  if r.2 = true ∧ r.1.f8 = 77 then
    if contFits (contName nm r.1) r.1 = true ∧ contB (contNd (contName nm r.1) r.1) r.1.f9 r.1.f10 = l.take k then (contNd (contName nm r.1) r.1, r.1.f9, r.1.f10, (k : Int), true) else noGet
  else noGet
/-- The long name in the second block. -/
def contLong (l : List (List Int)) (h : Hd) : ByteArray := trimZ (strOfNums ((rdR l 1).take h.f6.toNat))
def contGet (l : List (List Int)) : Nd × Int × Int × Int × Bool :=
  if (contNext l 0).2 = true ∧ (contNext l 0).1.f8 = 76 then
    if 1 < l.length ∧ (rdR l 1).length = 512 ∧ 2 ≤ (contNext l 0).1.f6 ∧ (contNext l 0).1.f6 ≤ 301 then contEnd l 3 (contLong l (contNext l 0).1) (contNext l 2) else noGet
  else contEnd l 1 ⟨#[]⟩ (contNext l 0)
theorem trimZ_nought (s : ByteArray) : trimZ (s ++ (⟨#[0]⟩ : ByteArray)) = s := by
  have hs : (s ++ (⟨#[0]⟩ : ByteArray)).size = s.size + 1 := ByteArray.size_append
  have e : endsZ (s ++ (⟨#[0]⟩ : ByteArray)) = true := by
    unfold endsZ
    rw [hs, decide_eq_true (by omega), Bool.true_and, beq_iff_eq, Lib.toList_data, Lib.extract_data]
    have : (s ++ (⟨#[0]⟩ : ByteArray)).data.toList = s.data.toList ++ [0] := by rw [ByteArray.data_append]; simp
    rw [this]
    have hl : s.data.toList.length = s.size := Array.length_toList
    rw [Nat.add_sub_cancel, ← hl, List.drop_left]
    simp
  unfold trimZ
  rw [if_pos e, hs, Nat.add_sub_cancel]
  apply ByteArray.ext
  apply Array.ext'
  rw [Lib.extract_data]
  have : (s ++ (⟨#[0]⟩ : ByteArray)).data.toList = s.data.toList ++ [0] := by rw [ByteArray.data_append]; simp
  have hl : s.data.toList.length = s.size := Array.length_toList
  rw [this, List.drop_zero, Nat.sub_zero, ← hl, List.take_left]
theorem contNd_facts {n : Nd} (h : OneFacts n) (hk : n.f2 = 48) : oneB ⟨n.f0, ⟨#[]⟩, 48, n.f3, n.f4, n.f5, n.f6, ⟨#[]⟩⟩ = true := by
  obtain ⟨hp, hm, hu, hg, ht, _⟩ := h
  unfold oneB oneKind
  simp only [if_pos, hp, Bool.and_true]
  rw [decide_eq_true (show n.f3 ≥ 0 by omega), decide_eq_true (show n.f3 ≤ 4095 by omega), decide_eq_true (show n.f4 ≥ 0 by omega), decide_eq_true hu.2, decide_eq_true (show n.f5 ≥ 0 by omega), decide_eq_true hg.2, decide_eq_true (show n.f6 ≥ 0 by omega), decide_eq_true ht.2]
  rfl
theorem file_link {n : Nd} (h : OneFacts n) (hk : n.f2 = 48) : n.f1 = ⟨#[]⟩ := by
  rcases h.kind with ⟨_, e, _⟩ | ⟨e, _⟩ | ⟨e, _⟩ | ⟨e, _⟩
  · exact empty_of_size e
  all_goals (rw [hk] at e; exact absurd e (by decide))
theorem contB_length {n : Nd} (h : OneFacts n) (off whole : Int) : (contB n off whole).length = if 100 < n.f0.size then 3 else 1 := by
  have hz := mayL_pos h.path
  unfold contB
  by_cases c : 100 < n.f0.size
  · rw [if_pos c, if_pos c, List.length_append, longL_two hz.2]; rfl
  · rw [if_neg c, if_neg c]; rfl
theorem contHd_get {n : Nd} (h : OneFacts n) {off whole : Int} (h0 : 0 ≤ off) (h1 : off ≤ whole) (h2 : whole ≤ 4000) : headGet (hdBlk (contHd n off whole)) = (contHd n off whole, 0) :=
  headGet_put (contHd_ok h h0 h1 h2) (contHd_in h h0 h1 h2)
theorem rdR_cons_zero (x : List Int) (r : List (List Int)) : rdR (x :: r) 0 = x := rfl
theorem rdR_cons_succ (x : List Int) (r : List (List Int)) (i : Nat) : rdR (x :: r) (i + 1) = rdR r i := rfl
/-- What is put is got. -/
theorem contGet_put {n : Nd} (h : OneFacts n) (hk : n.f2 = 48) {off : Int} (h0 : 0 ≤ off) (h1 : off < (n.f7.size : Int)) (h5 : off % 512 = 0) (l : List (List Int)) :
    contGet (contB n off (n.f7.size : Int) ++ l) = (⟨n.f0, ⟨#[]⟩, 48, n.f3, n.f4, n.f5, n.f6, ⟨#[]⟩⟩, off, (n.f7.size : Int), ((contB n off (n.f7.size : Int)).length : Int), true) := by
  have hd := h.data
  have hz := mayL_pos h.path
  generalize hwh : (n.f7.size : Int) = whole at *
  have h2 : whole ≤ 4000 := by omega
  have hg := contHd_get h h0 (by omega : off ≤ whole) h2
  have hfits : contFits n.f0 (contHd n off whole) = true := by
    unfold contFits
    rw [h.path, show contNd n.f0 (contHd n off whole) = ⟨n.f0, ⟨#[]⟩, 48, n.f3, n.f4, n.f5, n.f6, ⟨#[]⟩⟩ from rfl, contNd_facts h hk]
    rw [show (contHd n off whole).f10 = whole from rfl, show (contHd n off whole).f9 = off from rfl, decide_eq_true h2, decide_eq_true h1, decide_eq_true h5]
    rfl
  have hend : ∀ (k : Nat) (nm : ByteArray) (L : List (List Int)), contName nm (contHd n off whole) = n.f0 → L.take k = contB n off whole → k = (contB n off whole).length →
      contEnd L k nm (contHd n off whole, true) = (⟨n.f0, ⟨#[]⟩, 48, n.f3, n.f4, n.f5, n.f6, ⟨#[]⟩⟩, off, whole, ((contB n off whole).length : Int), true) := by
    intro k nm L e1 e2 e3
    unfold contEnd
    rw [if_pos ⟨rfl, rfl⟩]
    simp only [e1]
    rw [if_pos ⟨hfits, by rw [e2]; rfl⟩, ← e3]
    rfl
  have hlen := contB_length h off whole
  by_cases c : 100 < n.f0.size
  · rw [if_pos c] at hlen
    have hB : contB n off whole = [hdBlk (longHd 76 n.f0), padL (bytesOf n.f0 ++ [0]), hdBlk (contHd n off whole)] := by
      unfold contB
      rw [if_pos c, longL_rows hz.2, longHead (.inr rfl) (by omega)]
      rfl
    have hgl := headGet_long (kind := 76) (s := n.f0) (.inr rfl) (by omega)
    have n0 : contNext (contB n off whole ++ l) 0 = (longHd 76 n.f0, true) := by
      unfold contNext
      rw [if_pos (by rw [List.length_append, hlen]; omega), hB]
      simp only [List.cons_append, rdR_cons_zero, hgl]
      rfl
    have n2 : contNext (contB n off whole ++ l) 2 = (contHd n off whole, true) := by
      unfold contNext
      rw [if_pos (by rw [List.length_append, hlen]; omega), hB]
      simp only [List.cons_append, rdR_cons_zero, rdR_cons_succ, hg]
      rfl
    have hr1 : rdR (contB n off whole ++ l) 1 = padL (bytesOf n.f0 ++ [0]) := by rw [hB]; rfl
    have hpl : (padL (bytesOf n.f0 ++ [0])).length = 512 := padL_length (by rw [List.length_append, bytesOf_length, List.length_singleton]; omega)
    have hlong : contLong (contB n off whole ++ l) (longHd 76 n.f0) = n.f0 := by
      unfold contLong
      rw [hr1, show (longHd 76 n.f0).f6 = (n.f0.size : Int) + 1 from rfl]
      have e : ((n.f0.size : Int) + 1).toNat = (bytesOf n.f0 ++ [0]).length := by rw [List.length_append, bytesOf_length, List.length_singleton]; omega
      have e2 : bytesOf n.f0 ++ [0] = bytesOf (n.f0 ++ (⟨#[0]⟩ : ByteArray)) := by rw [bytesOf_append]; rfl
      rw [e]
      unfold padL
      rw [List.take_left, e2, str_bytesOf, trimZ_nought]
    unfold contGet
    rw [n0, n2, hlong]
    rw [if_pos ⟨rfl, rfl⟩, if_pos ⟨by rw [List.length_append, hlen]; omega, by rw [hr1, hpl], by show (2 : Int) ≤ (n.f0.size : Int) + 1; omega, by show (n.f0.size : Int) + 1 ≤ 301; omega⟩]
    exact hend 3 n.f0 _ (by unfold contName; rw [if_neg (by omega)]) (by rw [← hlen, List.take_left]) hlen.symm
  · rw [if_neg c] at hlen
    have hB : contB n off whole = [hdBlk (contHd n off whole)] := by
      unfold contB
      rw [if_neg c]
      rfl
    have n0 : contNext (contB n off whole ++ l) 0 = (contHd n off whole, true) := by
      unfold contNext
      rw [if_pos (by rw [List.length_append, hlen]; omega), hB]
      simp only [List.cons_append, rdR_cons_zero, hg]
      rfl
    unfold contGet
    rw [n0, if_neg (fun e => absurd e.2 (by show ¬ ((77 : Int) = 76); decide))]
    refine hend 1 ⟨#[]⟩ _ ?_ (by rw [← hlen, List.take_left]) hlen.symm
    show (if (⟨#[]⟩ : ByteArray).size = 0 then n.f0.extract 0 (min n.f0.size 100) else _) = n.f0
    rw [if_pos (show (⟨#[]⟩ : ByteArray).size = 0 from rfl), show min n.f0.size 100 = n.f0.size by omega, ByteArray.extract_zero_size]
/-- What is got was put. -/
theorem contEnd_yes {l : List (List Int)} {k : Nat} {nm : ByteArray} {i : Nat} (hk : 1 ≤ k) (hki : i < k) (hn : ∀ r, contEnd l k nm (contNext l i) = r → r.2.2.2.2 = true → k ≤ l.length) {n : Nd} {off whole at_ : Int} (h : contEnd l k nm (contNext l i) = (n, off, whole, at_, true)) :
    OneFacts n ∧ oneB n = true ∧ n.f2 = 48 ∧ n.f7 = ⟨#[]⟩ ∧ 0 ≤ off ∧ off < whole ∧ whole ≤ 4000 ∧ off % 512 = 0 ∧ at_ = (k : Int) ∧ k ≤ l.length ∧ l.take k = contB n off whole := by
  have hkl := hn _ h rfl
  unfold contEnd at h
  by_cases c : (contNext l i).2 = true ∧ (contNext l i).1.f8 = 77
  · rw [if_pos c] at h
    by_cases d : contFits (contName nm (contNext l i).1) (contNext l i).1 = true ∧ contB (contNd (contName nm (contNext l i).1) (contNext l i).1) (contNext l i).1.f9 (contNext l i).1.f10 = l.take k
    · rw [if_pos d] at h
      simp only [Prod.mk.injEq] at h
      obtain ⟨rfl, rfl, rfl, rfl, _⟩ := h
      obtain ⟨d1, d2⟩ := d
      have hok : hdOk (contNext l i).1 = true := by
        have c1 := c.1
        unfold contNext at c1 ⊢
        rw [if_pos (by omega)] at c1 ⊢
        have e : headGet (rdR l i) = ((headGet (rdR l i)).1, 0) := by
          have : (headGet (rdR l i)).2 = 0 := by simpa using c1
          rw [← this]
        exact (headGet_yes e).1
      unfold contFits at d1
      simp only [Bool.and_eq_true, decide_eq_true_eq] at d1
      obtain ⟨_, g1, g2, g3, g4⟩ := d1
      have hoff : 0 ≤ (contNext l i).1.f9 := by
        have := ((hdOk_fit hok).2.2 c.2).1
        exact (putN_forms this).1
      exact ⟨oneB_facts g1, g1, rfl, rfl, hoff, g3, g2, g4, rfl, hkl, d2.symm⟩
    · rw [if_neg d] at h; cases h
  · rw [if_neg c] at h; cases h
theorem contNext_lt {l : List (List Int)} {i : Nat} (h : (contNext l i).2 = true) : i < l.length := by
  unfold contNext at h
  by_cases c : i < l.length
  · exact c
  · rw [if_neg c] at h; cases h
theorem contNext_ok {l : List (List Int)} {i : Nat} (h : (contNext l i).2 = true) : hdOk (contNext l i).1 = true := by
  have hi := contNext_lt h
  unfold contNext at h ⊢
  rw [if_pos hi] at h ⊢
  have e : headGet (rdR l i) = ((headGet (rdR l i)).1, 0) := by
    have : (headGet (rdR l i)).2 = 0 := by simpa using h
    rw [← this]
  exact (headGet_yes e).1
theorem contEnd_next {l : List (List Int)} {k : Nat} {nm : ByteArray} {r : Hd × Bool} (h : (contEnd l k nm r).2.2.2.2 = true) : r.2 = true := by
  unfold contEnd at h
  by_cases c : r.2 = true ∧ r.1.f8 = 77
  · exact c.1
  · rw [if_neg c] at h; cases h
theorem contGet_yes {l : List (List Int)} {n : Nd} {off whole at_ : Int} (h : contGet l = (n, off, whole, at_, true)) :
    ∃ k : Nat, OneFacts n ∧ oneB n = true ∧ n.f2 = 48 ∧ n.f7 = ⟨#[]⟩ ∧ 0 ≤ off ∧ off < whole ∧ whole ≤ 4000 ∧ off % 512 = 0 ∧ at_ = (k : Int) ∧ 1 ≤ k ∧ k ≤ l.length ∧ l.take k = contB n off whole := by
  unfold contGet at h
  by_cases c : (contNext l 0).2 = true ∧ (contNext l 0).1.f8 = 76
  · rw [if_pos c] at h
    by_cases d : 1 < l.length ∧ (rdR l 1).length = 512 ∧ 2 ≤ (contNext l 0).1.f6 ∧ (contNext l 0).1.f6 ≤ 301
    · rw [if_pos d] at h
      obtain ⟨a1, a2, a3, a4, a5, a6, a7, a8, a9, a10, a11⟩ := contEnd_yes (i := 2) (by decide) (by decide) (fun r e1 e2 => contNext_lt (contEnd_next (by rw [e1]; exact e2))) h
      exact ⟨3, a1, a2, a3, a4, a5, a6, a7, a8, a9, by decide, a10, a11⟩
    · rw [if_neg d] at h; cases h
  · rw [if_neg c] at h
    obtain ⟨a1, a2, a3, a4, a5, a6, a7, a8, a9, a10, a11⟩ := contEnd_yes (i := 0) (by decide) (by decide) (fun r e1 e2 => contNext_lt (contEnd_next (by rw [e1]; exact e2))) h
    exact ⟨1, a1, a2, a3, a4, a5, a6, a7, a8, a9, by decide, a10, a11⟩
theorem contEnd_no {l : List (List Int)} {k : Nat} {nm : ByteArray} {r : Hd × Bool} (h : (contEnd l k nm r).2.2.2.2 = false) : contEnd l k nm r = noGet := by
  unfold contEnd at h ⊢
  by_cases c : r.2 = true ∧ r.1.f8 = 77
  · rw [if_pos c] at h ⊢
    by_cases d : contFits (contName nm r.1) r.1 = true ∧ contB (contNd (contName nm r.1) r.1) r.1.f9 r.1.f10 = l.take k
    · rw [if_pos d] at h; cases h
    · rw [if_neg d]
  · rw [if_neg c]
theorem contGet_no {l : List (List Int)} (h : (contGet l).2.2.2.2 = false) : contGet l = noGet := by
  unfold contGet at h ⊢
  by_cases c : (contNext l 0).2 = true ∧ (contNext l 0).1.f8 = 76
  · rw [if_pos c] at h ⊢
    by_cases d : 1 < l.length ∧ (rdR l 1).length = 512 ∧ 2 ≤ (contNext l 0).1.f6 ∧ (contNext l 0).1.f6 ≤ 301
    · rw [if_pos d] at h ⊢; exact contEnd_no h
    · rw [if_neg d]
  · rw [if_neg c] at h ⊢; exact contEnd_no h
/-- Headers tell who goes on. -/
theorem contB_inj {n m : Nd} (hn : OneFacts n) (hm : OneFacts m) (kn : n.f2 = 48) (km : m.f2 = 48) {a b c d : Int} (a0 : 0 ≤ a) (a1 : a ≤ b) (a2 : b ≤ 4000) (c0 : 0 ≤ c) (c1 : c ≤ d) (c2 : d ≤ 4000) :
    contB n a b = contB m c d ↔ ((⟨n.f0, n.f1, n.f2, n.f3, n.f4, n.f5, n.f6, ⟨#[]⟩⟩ : Nd) = ⟨m.f0, m.f1, m.f2, m.f3, m.f4, m.f5, m.f6, ⟨#[]⟩⟩ ∧ a = c ∧ b = d) := by
  have zn := mayL_pos hn.path
  have zm := mayL_pos hm.path
  have on := contHd_ok hn a0 a1 a2
  have om := contHd_ok hm c0 c1 c2
  constructor
  · intro h
    have hl := congrArg List.length h
    rw [contB_length hn, contB_length hm] at hl
    have hh : contHd n a b = contHd m c d ∧ (100 < n.f0.size → n.f0 = m.f0) := by
      unfold contB at h
      by_cases e : 100 < n.f0.size
      · have e' : 100 < m.f0.size := by
          by_cases e' : 100 < m.f0.size
          · exact e'
          · rw [if_pos e, if_neg e'] at hl; cases hl
        rw [if_pos e, if_pos e'] at h
        obtain ⟨h1, h2⟩ := List.append_inj h (by rw [longL_two zn.2, longL_two zm.2])
        exact ⟨hdBlk_inj on om (by simpa using h2), fun _ => longL_text_inj (mayL_text hn.path) (mayL_text hm.path) h1⟩
      · have e' : ¬ 100 < m.f0.size := by
          intro e'
          rw [if_neg e, if_pos e'] at hl; cases hl
        rw [if_neg e, if_neg e'] at h
        exact ⟨hdBlk_inj on om (by simpa using h), fun h => absurd h e⟩
    obtain ⟨h1, h2⟩ := hh
    unfold contHd at h1
    simp only [S37.mk.injEq] at h1
    obtain ⟨e0, _, _, e3, e4, e5, _, e7, _, e9, e10⟩ := h1
    have hf0 : n.f0 = m.f0 := by
      by_cases e : 100 < n.f0.size
      · exact h2 e
      · have e' : ¬ 100 < m.f0.size := by
          intro e'
          rw [if_neg e, if_pos e'] at hl; cases hl
        rw [show min n.f0.size 100 = n.f0.size by omega, show min m.f0.size 100 = m.f0.size by omega, ByteArray.extract_zero_size, ByteArray.extract_zero_size] at e0
        exact e0
    rw [hf0, file_link hn kn, file_link hm km, kn, km, e3, e4, e5, e7]
    exact ⟨rfl, e9, e10⟩
  · rintro ⟨h1, rfl, rfl⟩
    simp only [S23.mk.injEq] at h1
    obtain ⟨e0, _, _, e3, e4, e5, e6, _⟩ := h1
    unfold contB contHd
    rw [e0, e3, e4, e5, e6]

end Go.Proofs.Ytekfgmpldgoglaa.X
