import Derived.Test.YtpedagpcblnnhaaGreatXK
import Derived.Test.YtpedagpcblnnhaaGreatXGhead
import Derived.Test.YtpedagpcblnnhaaGreatXGnum
import Derived.Test.YtpedagpcblnnhaaGreatXGget
import Derived.Test.YtpedagpcblnnhaaGreatYAll
import Derived.Test.YtpedagpcblnnhaaGreatPGA
import Derived.Test.YtpedagpcblnnhaaGreatP02p
import Derived.Lib.IndexAny
import Derived.Test.YtpedagpcblnnhaaGreatXGtree
import Derived.Test.YtpedagpcblnnhaaGreatXreelkeeperlaw06Few
import Derived.Test.YtpedagpcblnnhaaGreatXGpath
namespace Go.Proofs.YtpedagpcblnnhaaGreat.X
open Go.RowKit Go.Proofs.YtpedagpcblnnhaaGreatW.PrintWords Go.Proofs.YtpedagpcblnnhaaGreatW.PrintLast Go.Proofs.YtpedagpcblnnhaaGreatW.PrintMore
attribute [local go_sem] max2_int min2_int max_two min_two
set_option linter.unusedVariables false
set_option linter.unusedSimpArgs false
section
open Go.Proofs.YtpedagpcblnnhaaGreatY
theorem getL_append (b : Bool) : ∀ (x y : List Int) (n : Int), getL b (x ++ y) n = (getL b x n).bind (getL b y)
  | [], y, n => rfl
  | c :: x, y, n => by
    rw [List.cons_append, getL, getL]
    split
    · rfl
    · exact getL_append b x y _
theorem getL_octL (d : Nat) : ∀ (n a : Nat), a * 8 ^ d + n % 8 ^ d < 9223372036854775808 → getL true (octL n d) a = some ((a * 8 ^ d + n % 8 ^ d : Nat) : Int) := by
  induction d with
  | zero =>
    intro n a _
    rw [octL, getL, Nat.pow_zero, Nat.mul_one, Nat.mod_one, Nat.add_zero]
  | succ d ih =>
    intro n a h
    have e : a * 8 ^ (d + 1) + n % 8 ^ (d + 1) = (a * 8 ^ d + (n / 8) % 8 ^ d) * 8 + n % 8 := by
      have e1 : n % 8 ^ (d + 1) = n % 8 + 8 * (n / 8 % 8 ^ d) := by rw [Nat.pow_succ, Nat.mul_comm (8 ^ d) 8, Nat.mod_mul]
      have e2 : a * 8 ^ (d + 1) = a * 8 ^ d * 8 := by rw [Nat.pow_succ, Nat.mul_assoc]
      rw [e1, e2, Nat.add_mul, Nat.mul_comm 8 (n / 8 % 8 ^ d)]
      generalize n / 8 % 8 ^ d = q
      generalize a * 8 ^ d = z
      omega
    rw [e] at h ⊢
    clear e
    have hm := ih (n / 8) a (by
      revert h
      generalize n / 8 % 8 ^ d = q
      generalize a * 8 ^ d = z
      omega)
    rw [octL, getL_append, hm]
    clear hm ih
    generalize a * 8 ^ d + n / 8 % 8 ^ d = m at h ⊢
    simp only [Option.bind_some]
    rw [getL, if_neg (by rintro (⟨h', h''⟩ | h'); cases h''; omega), getL]
    congr 1
    simp only [if_true]
    unfold wrap64
    omega
theorem getL_bytL (d : Nat) : ∀ (n a : Nat), a * 256 ^ d + n % 256 ^ d < 9223372036854775808 → getL false (bytL n d) a = some ((a * 256 ^ d + n % 256 ^ d : Nat) : Int) := by
  induction d with
  | zero =>
    intro n a _
    rw [bytL, getL, Nat.pow_zero, Nat.mul_one, Nat.mod_one, Nat.add_zero]
  | succ d ih =>
    intro n a h
    have e : a * 256 ^ (d + 1) + n % 256 ^ (d + 1) = (a * 256 ^ d + (n / 256) % 256 ^ d) * 256 + n % 256 := by
      have e1 : n % 256 ^ (d + 1) = n % 256 + 256 * (n / 256 % 256 ^ d) := by rw [Nat.pow_succ, Nat.mul_comm (256 ^ d) 256, Nat.mod_mul]
      have e2 : a * 256 ^ (d + 1) = a * 256 ^ d * 256 := by rw [Nat.pow_succ, Nat.mul_assoc]
      rw [e1, e2, Nat.add_mul, Nat.mul_comm 256 (n / 256 % 256 ^ d)]
      generalize n / 256 % 256 ^ d = q
      generalize a * 256 ^ d = z
      omega
    rw [e] at h ⊢
    clear e
    have hm := ih (n / 256) a (by
      revert h
      generalize n / 256 % 256 ^ d = q
      generalize a * 256 ^ d = z
      omega)
    rw [bytL, getL_append, hm]
    clear hm ih
    generalize a * 256 ^ d + n / 256 % 256 ^ d = m at h ⊢
    simp only [Option.bind_some]
    rw [getL, if_neg (by rintro (⟨h', h''⟩ | h'); omega; omega), getL]
    congr 1
    simp only [Bool.false_eq_true, if_false]
    unfold wrap64
    omega
theorem getV_putN {n w : Int} (h : (putN n w).2 = true) (hn : n ≤ 9223372036854775807) : getV (putN n w).1 = some n := by
  obtain ⟨h0, hw, _, h1 | h1⟩ := putN_forms h
  · obtain ⟨e, hz⟩ := h1
    rw [e]
    unfold getV
    obtain ⟨d, hd⟩ : ∃ d, w.toNat - 1 = d + 1 := ⟨w.toNat - 2, by omega⟩
    have hne : (octL n.toNat (w.toNat - 1) ++ [0]).getD 0 0 ≠ (128 : Int) := by
      rw [hd, octL_cons]
      simp
      omega
    have hlt : n.toNat < 8 ^ (w.toNat - 1) := by
      rcases Nat.lt_or_ge n.toNat (8 ^ (w.toNat - 1)) with c | c
      · exact c
      · have := Nat.div_pos c (Nat.pow_pos (by decide)); omega
    have hm := Nat.mod_eq_of_lt hlt
    rw [if_neg hne, List.dropLast_concat]
    have := getL_octL (w.toNat - 1) n.toNat 0 (by rw [Nat.zero_mul, Nat.zero_add, hm]; omega)
    rw [Nat.zero_mul, Nat.zero_add, hm] at this
    exact this.trans (congrArg some (by omega))
  · obtain ⟨e, hz⟩ := h1
    rw [e]
    unfold getV
    have hlt : n.toNat < 256 ^ (w.toNat - 1) := by
      rcases Nat.lt_or_ge n.toNat (256 ^ (w.toNat - 1)) with c | c
      · exact c
      · have := Nat.div_pos c (Nat.pow_pos (by decide)); omega
    have hm := Nat.mod_eq_of_lt hlt
    rw [if_pos (show (128 :: bytL n.toNat (w.toNat - 1)).getD 0 0 = (128 : Int) from rfl), List.tail_cons]
    have := getL_bytL (w.toNat - 1) n.toNat 0 (by rw [Nat.zero_mul, Nat.zero_add, hm]; omega)
    rw [Nat.zero_mul, Nat.zero_add, hm] at this
    exact this.trans (congrArg some (by omega))
theorem getN_putN {n w : Int} (h : (putN n w).2 = true) (hn : n ≤ 9223372036854775807) : getN (putN n w).1 = (n, true) := by
  have hl := putN_length h
  unfold getN
  rw [if_neg (by omega), getV_putN h hn]
  simp only
  have e : ((putN n w).1.length : Int) = w := by omega
  rw [e, if_pos ⟨h, rfl⟩]
theorem uptoL_padTo {n : Nat} {s : ByteArray} (hs : (0 : Int) ∉ bytesOf s) : uptoL (padTo n s) = bytesOf s := by
  unfold uptoL padTo
  generalize bytesOf s = b at hs
  induction b with
  | nil =>
    rw [List.nil_append]
    cases n - s.size with
    | zero => rfl
    | succ k => rfl
  | cons c b ih =>
    rw [List.cons_append, List.takeWhile_cons_of_pos (by simp only [bne_iff_ne]; exact fun e => hs (by rw [e]; exact List.mem_cons_self)), ih (fun h => hs (List.mem_cons_of_mem _ h))]
def guess (b : List Int) : Hd :=
  ⟨strOfNums (uptoL (sub b 0 100)), if b.getD 156 0 = 77 then ⟨#[]⟩ else strOfNums (uptoL (sub b 345 155)), strOfNums (uptoL (sub b 157 100)),
    (getN (sub b 100 8)).1, (getN (sub b 108 8)).1, (getN (sub b 116 8)).1, (getN (sub b 124 12)).1, (getN (sub b 136 12)).1, b.getD 156 0,
    if b.getD 156 0 = 77 then (getN (sub b 369 12)).1 else 0, if b.getD 156 0 = 77 then (getN (sub b 483 12)).1 else 0⟩
def hd0 : Hd := ⟨⟨#[]⟩, ⟨#[]⟩, ⟨#[]⟩, 0, 0, 0, 0, 0, 0, 0, 0⟩
def headGet (b : List Int) : Hd × Int :=
  if b.length ≠ 512 then (hd0, 1)
  else if b.all (fun c => c == 0) = true then (hd0, 4)
  else if sub b 148 8 ≠ signL (sumL b 0) then (hd0, 3)
  else if (headPut (guess b)).2 = true ∧ (headPut (guess b)).1 = b then (guess b, 0) else (hd0, 2)
end
section
open Go.Proofs.YtpedagpcblnnhaaGreatY
theorem rd_at {l : List Nd} {i : Nat} (h : i < l.length) : rd_T41 l (i : Int) = l[i] := by unfold rd_T41; simp [List.getD, List.getElem?_eq_getElem h]
def fewL (l : List Nd) : Bool := decide (l.length ≤ 30) && l.all okN
theorem few_loop (l : List Nd) : ∀ (d i : Nat), i + d = 31 → i ≤ l.length → (l.take i).all okN = true → Ev (fun k => reelkeeperlaw06_Few.l0 k l (i : Int)) (fewL l) := by
  intro d
  induction d with
  | zero =>
    intro i hi hl ha
    refine Ev.step (fun _ => rfl) ?_
    simp only [reelkeeperlaw06_Few.l0]
    have hf : fewL l = decide ((l.length : Int) ≤ 30) := by
      unfold fewL
      rw [decide_eq_false (by omega), decide_eq_false (by omega)]
      rfl
    by_cases h : (i : Int) < (l.length : Int)
    · simp only [if_pos h]
      refine Ev.step (fun _ => rfl) ?_
      simp only [reelkeeperlaw06_Few.j1]
      refine Ev.if_neg (by simp; omega) ?_
      rw [hf]
      exact Ev.now _
    · simp only [if_neg h]
      refine Ev.step (fun _ => rfl) ?_
      simp only [reelkeeperlaw06_Few.j1]
      simp only [Bool.false_eq_true, if_false]
      rw [hf]
      exact Ev.now _
  | succ d ih =>
    intro i hi hl ha
    refine Ev.step (fun _ => rfl) ?_
    simp only [reelkeeperlaw06_Few.l0]
    by_cases h : (i : Int) < (l.length : Int)
    · have hlt : i < l.length := by omega
      simp only [if_pos h]
      refine Ev.step (fun _ => rfl) ?_
      simp only [reelkeeperlaw06_Few.j1]
      refine Ev.if_pos (by simp; omega) ?_
      simp only [if_pos (show (0 : Int) ≤ (i : Int) by omega), if_pos h, rd_at hlt, few5, Option.bind_some]
      cases ho : okN l[i] with
      | false =>
        simp only [Bool.false_eq_true, if_false]
        have hf : fewL l = false := by
          unfold fewL
          rw [Bool.and_eq_false_iff]
          refine .inr ?_
          rw [List.all_eq_false]
          exact ⟨l[i], List.getElem_mem hlt, by rw [ho]; decide⟩
        rw [hf]
        exact Ev.now _
      | true =>
        simp only [if_true]
        have hw : wrap64 ((i : Int) + 1) = ((i + 1 : Nat) : Int) := by rw [wrap_id (by omega) (by omega)]; omega
        rw [hw]
        refine ih (i + 1) (by omega) (by omega) ?_
        rw [List.take_succ_eq_append_getElem hlt, List.all_append, ha]
        simp [ho]
    · simp only [if_neg h]
      refine Ev.step (fun _ => rfl) ?_
      simp only [reelkeeperlaw06_Few.j1]
      simp only [Bool.false_eq_true, if_false]
      have e : l.take i = l := List.take_of_length_le (by omega)
      have hf : fewL l = decide ((l.length : Int) ≤ 30) := by
        unfold fewL
        rw [e] at ha
        rw [ha, Bool.and_true]
        congr 1
        exact propext ⟨fun _ => by omega, fun _ => by omega⟩
      rw [hf]
      exact Ev.now _
theorem few_ev (l : List Nd) : Ev (fun k => reelkeeperlaw06_Few.f k l) (fewL l) := few_loop l 31 0 rfl (Nat.zero_le _) (by simp)
theorem fewL_iff {l : List Nd} : fewL l = true ↔ l.length ≤ 30 ∧ ∀ n ∈ l, okN n = true := by simp [fewL, List.all_eq_true]
def one (n : Nd) : Bool := (tree_One.f n.f0 n.f1 n.f2 n.f3 n.f4 n.f5 n.f6 n.f7).getD false
theorem one_f {n : Nd} (h : okN n = true) : tree_One.f n.f0 n.f1 n.f2 n.f3 n.f4 n.f5 n.f6 n.f7 = some (one n) := by
  obtain ⟨h0, h1, _⟩ := okN_iff.1 h
  have : ∃ o, tree_One.f n.f0 n.f1 n.f2 n.f3 n.f4 n.f5 n.f6 n.f7 = some o := by
    have hm0 : path_May.f n.f0 = some _ := may_f (by omega)
    have hm1 : path_May.f n.f1 = some _ := may_f (by omega)
    have hq : ∃ q, tree_One.ask n.f0 n.f1 n.f2 n.f3 n.f4 n.f5 n.f6 n.f7 = some q := by
      unfold tree_One.ask
      split
      · unfold tree_kinds_1.f
        split
        · exact ⟨_, rfl⟩
        · exact ⟨_, rfl⟩
      · split
        · unfold tree_kinds_2.f
          split
          · exact ⟨_, hm1⟩
          · exact ⟨_, rfl⟩
        · split
          · have ht : ∃ t, long_Text.f n.f1 = some t := by
              unfold long_Text.f strings_IndexByte.f
              split
              · exact ⟨_, rfl⟩
              · split
                · exact ⟨_, rfl⟩
                · exact ⟨_, rfl⟩
            obtain ⟨t, ht⟩ := ht
            unfold tree_kinds_3.f
            rw [ht]
            cases t <;> exact ⟨_, rfl⟩
          · split
            · unfold tree_kinds_4.f
              split
              · exact ⟨_, rfl⟩
              · exact ⟨_, rfl⟩
            · exact ⟨_, rfl⟩
    obtain ⟨q, hq⟩ := hq
    unfold tree_One.f
    rw [hq, hm0]
    exact ⟨_, rfl⟩
  obtain ⟨o, ho⟩ := this
  unfold one
  rw [ho]
  rfl
noncomputable def parentOf (s : ByteArray) : ByteArray × Bool := if h : s.size ≤ 9223372036854775807 then Classical.choose (parent_ev s h) else (⟨#[]⟩, false)
theorem parentOf_ev {s : ByteArray} (h : s.size ≤ 9223372036854775807) : Ev (fun k => path_Parent.f k s) (parentOf s) ∧ IsParent s (parentOf s) := by
  unfold parentOf
  rw [dif_pos h]
  exact Classical.choose_spec (parent_ev s h)
noncomputable def step (pre : List Nd) (last : ByteArray) (n : Nd) : Bool := one n && (!(Op.bytesLess n.f0.toList last.toList || n.f0.toList == last.toList) && (!((parentOf n.f0).2 && !(seen pre (parentOf n.f0).1 == 53)) && !(n.f2 == 49 && !(seen pre n.f1 == 48))))
noncomputable def mayT : List Nd → ByteArray → List Nd → Bool
  | _, _, [] => true
  | pre, last, n :: t => step pre last n && mayT (pre ++ [n]) n.f0 t
theorem may_go : ∀ (l pre : List Nd) (last : ByteArray), (∀ n ∈ l, okN n = true) → Ev (fun k => tree_May.go k pre last l) (mayT pre last l)
  | [], pre, last, _ => by
    refine Ev.of_eq fun k => ?_
    unfold tree_May.go mayT
    rfl
  | n :: t, pre, last, h => by
    have hn := h n (.head _)
    have ih := may_go t (pre ++ [n]) n.f0 (fun x hx => h x (.tail _ hx))
    refine Ev.congr (fun k => by unfold tree_May.go; rfl) ?_
    unfold mayT step
    refine Ev.bind (Ev.of_eq fun _ => one_f hn) ?_
    cases ho : one n with
    | false => exact Ev.if_neg (by decide) (Ev.now _)
    | true =>
      refine Ev.if_pos rfl ?_
      cases hl : (Op.bytesLess n.f0.toList last.toList || n.f0.toList == last.toList) with
      | true => exact Ev.if_pos rfl (Ev.now _)
      | false =>
        refine Ev.if_neg (by decide) ?_
        refine Ev.bind (parentOf_ev (by have := (okN_iff.1 hn).1; omega)).1 ?_
        cases hc : ((parentOf n.f0).2 && !(seen pre (parentOf n.f0).1 == 53)) with
        | true => exact Ev.if_pos rfl (Ev.now _)
        | false =>
          refine Ev.if_neg (by decide) ?_
          cases hk : (n.f2 == 49 && !(seen pre n.f1 == 48)) with
          | true => exact Ev.if_pos rfl (Ev.now _)
          | false => exact Ev.if_neg (by decide) ih
noncomputable def mayF (l : List Nd) : Bool := decide (l.length ≤ 20) && mayT [] ⟨#[]⟩ l
theorem may_ev {l : List Nd} (h : ∀ n ∈ l, okN n = true) : Ev (fun k => tree_May.f k l) (mayF l) := by
  unfold tree_May.f mayF
  by_cases hl : l.length ≤ 20
  · rw [decide_eq_true hl, Bool.true_and]
    exact Ev.if_neg (by omega) (may_go l [] _ h)
  · rw [decide_eq_false hl, Bool.false_and]
    exact Ev.if_pos (by omega) (Ev.now _)
end
end Go.Proofs.YtpedagpcblnnhaaGreat.X
