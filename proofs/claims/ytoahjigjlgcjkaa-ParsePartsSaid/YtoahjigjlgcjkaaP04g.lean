/- Numbers and headers, read, plainly. -/
import Derived.Test.YtoahjigjlgcjkaaXK
import Derived.Test.YtoahjigjlgcjkaaXGhead
import Derived.Test.YtoahjigjlgcjkaaXGnum
import Derived.Test.YtoahjigjlgcjkaaXGget
import Derived.Test.YtoahjigjlgcjkaaYAll
import Derived.Test.YtoahjigjlgcjkaaYAll
import Derived.Test.YtoahjigjlgcjkaaYAll
import Derived.Test.YtoahjigjlgcjkaaPGA
import Derived.Test.YtoahjigjlgcjkaaPGA
import Derived.Test.YtoahjigjlgcjkaaPGA
import Derived.Test.YtoahjigjlgcjkaaPGA
import Derived.Test.YtoahjigjlgcjkaaP04f
import Derived.Lib.IndexAny
namespace Go.Proofs.Ytoahjigjlgcjkaa.X
open Go.RowKit Go.Proofs.YtoahjigjlgcjkaaW.PrintWords Go.Proofs.YtoahjigjlgcjkaaW.PrintLast Go.Proofs.YtoahjigjlgcjkaaW.PrintMore
attribute [local go_sem] max2_int min2_int max_two min_two
set_option linter.unusedVariables false
set_option linter.unusedSimpArgs false

open Go.Proofs.YtoahjigjlgcjkaaY
theorem getL_append (b : Bool) : ∀ (x y : List Int) (n : Int), getL b (x ++ y) n = (getL b x n).bind (getL b y)
  | [], y, n => rfl
  | c :: x, y, n => by
    rw [List.cons_append, getL, getL]
    split
    · rfl
    · exact getL_append b x y _
theorem getL_octL (d : Nat) : ∀ (n a : Nat), a * 8 ^ d + n % 8 ^ d < 9223372036854775808 → getL true (octL n d) a = some ((a * 8 ^ d + n % 8 ^ d : Nat) : Int) := by
  induction d with
  | zero =>
    intro n a _
    rw [octL, getL, Nat.pow_zero, Nat.mul_one, Nat.mod_one, Nat.add_zero]
  | succ d ih =>
    intro n a h
    have e : a * 8 ^ (d + 1) + n % 8 ^ (d + 1) = (a * 8 ^ d + (n / 8) % 8 ^ d) * 8 + n % 8 := by
      have e1 : n % 8 ^ (d + 1) = n % 8 + 8 * (n / 8 % 8 ^ d) := by rw [Nat.pow_succ, Nat.mul_comm (8 ^ d) 8, Nat.mod_mul]
      have e2 : a * 8 ^ (d + 1) = a * 8 ^ d * 8 := by rw [Nat.pow_succ, Nat.mul_assoc]
      rw [e1, e2, Nat.add_mul, Nat.mul_comm 8 (n / 8 % 8 ^ d)]
      generalize n / 8 % 8 ^ d = q
      generalize a * 8 ^ d = z
      omega
    rw [e] at h ⊢
    clear e
    have hm := ih (n / 8) a (by
      revert h
      generalize n / 8 % 8 ^ d = q
      generalize a * 8 ^ d = z
      omega)
    rw [octL, getL_append, hm]
    clear hm ih
    generalize a * 8 ^ d + n / 8 % 8 ^ d = m at h ⊢
    simp only [Option.bind_some]
    rw [getL, if_neg (by rintro (⟨h', h''⟩ | h'); cases h''; omega), getL]
    congr 1
    simp only [if_true]
    unfold wrap64
    omega
theorem getL_bytL (d : Nat) : ∀ (n a : Nat), a * 256 ^ d + n % 256 ^ d < 9223372036854775808 → getL false (bytL n d) a = some ((a * 256 ^ d + n % 256 ^ d : Nat) : Int) := by
  induction d with
  | zero =>
    intro n a _
    rw [bytL, getL, Nat.pow_zero, Nat.mul_one, Nat.mod_one, Nat.add_zero]
  | succ d ih =>
    intro n a h
    have e : a * 256 ^ (d + 1) + n % 256 ^ (d + 1) = (a * 256 ^ d + (n / 256) % 256 ^ d) * 256 + n % 256 := by
      have e1 : n % 256 ^ (d + 1) = n % 256 + 256 * (n / 256 % 256 ^ d) := by rw [Nat.pow_succ, Nat.mul_comm (256 ^ d) 256, Nat.mod_mul]
      have e2 : a * 256 ^ (d + 1) = a * 256 ^ d * 256 := by rw [Nat.pow_succ, Nat.mul_assoc]
      rw [e1, e2, Nat.add_mul, Nat.mul_comm 256 (n / 256 % 256 ^ d)]
      generalize n / 256 % 256 ^ d = q
      generalize a * 256 ^ d = z
      omega
    rw [e] at h ⊢
    clear e
    have hm := ih (n / 256) a (by
      revert h
      generalize n / 256 % 256 ^ d = q
      generalize a * 256 ^ d = z
      omega)
    rw [bytL, getL_append, hm]
    clear hm ih
    generalize a * 256 ^ d + n / 256 % 256 ^ d = m at h ⊢
    simp only [Option.bind_some]
    rw [getL, if_neg (by rintro (⟨h', h''⟩ | h'); omega; omega), getL]
    congr 1
    simp only [Bool.false_eq_true, if_false]
    unfold wrap64
    omega
theorem getV_putN {n w : Int} (h : (putN n w).2 = true) (hn : n ≤ 9223372036854775807) : getV (putN n w).1 = some n := by
  obtain ⟨h0, hw, _, h1 | h1⟩ := putN_forms h
  · obtain ⟨e, hz⟩ := h1
    rw [e]
    unfold getV
    obtain ⟨d, hd⟩ : ∃ d, w.toNat - 1 = d + 1 := ⟨w.toNat - 2, by omega⟩
    have hne : (octL n.toNat (w.toNat - 1) ++ [0]).getD 0 0 ≠ (128 : Int) := by
      rw [hd, octL_cons]
      simp
      omega
    have hlt : n.toNat < 8 ^ (w.toNat - 1) := by
      rcases Nat.lt_or_ge n.toNat (8 ^ (w.toNat - 1)) with c | c
      · exact c
      · have := Nat.div_pos c (Nat.pow_pos (by decide)); omega
    have hm := Nat.mod_eq_of_lt hlt
    rw [if_neg hne, List.dropLast_concat]
    have := getL_octL (w.toNat - 1) n.toNat 0 (by rw [Nat.zero_mul, Nat.zero_add, hm]; omega)
    rw [Nat.zero_mul, Nat.zero_add, hm] at this
    exact this.trans (congrArg some (by omega))
  · obtain ⟨e, hz⟩ := h1
    rw [e]
    unfold getV
    have hlt : n.toNat < 256 ^ (w.toNat - 1) := by
      rcases Nat.lt_or_ge n.toNat (256 ^ (w.toNat - 1)) with c | c
      · exact c
      · have := Nat.div_pos c (Nat.pow_pos (by decide)); omega
    have hm := Nat.mod_eq_of_lt hlt
    rw [if_pos (show (128 :: bytL n.toNat (w.toNat - 1)).getD 0 0 = (128 : Int) from rfl), List.tail_cons]
    have := getL_bytL (w.toNat - 1) n.toNat 0 (by rw [Nat.zero_mul, Nat.zero_add, hm]; omega)
    rw [Nat.zero_mul, Nat.zero_add, hm] at this
    exact this.trans (congrArg some (by omega))
/-- What is put is got. -/
theorem getN_putN {n w : Int} (h : (putN n w).2 = true) (hn : n ≤ 9223372036854775807) : getN (putN n w).1 = (n, true) := by
  have hl := putN_length h
  unfold getN
  rw [if_neg (by omega), getV_putN h hn]
  simp only
  have e : ((putN n w).1.length : Int) = w := by omega
  rw [e, if_pos ⟨h, rfl⟩]
/-- What is got was put. -/
theorem getN_yes {l : List Int} {n : Int} (h : getN l = (n, true)) : (putN n l.length).2 = true ∧ (putN n l.length).1 = l := by
  unfold getN at h
  by_cases c : l.length < 2 ∨ 20 < l.length
  · rw [if_pos c] at h; cases h
  · rw [if_neg c] at h
    cases hv : getV l with
    | none => rw [hv] at h; cases h
    | some m =>
      rw [hv] at h
      simp only at h
      by_cases c2 : (putN m l.length).2 = true ∧ (putN m l.length).1 = l
      · rw [if_pos c2] at h; cases h; exact c2
      · rw [if_neg c2] at h; cases h
theorem getN_no {l : List Int} (h : (getN l).2 = false) : getN l = (0, false) := by
  unfold getN at h ⊢
  by_cases c : l.length < 2 ∨ 20 < l.length
  · rw [if_pos c]
  · rw [if_neg c] at h ⊢
    cases hv : getV l with
    | none => rfl
    | some m =>
      rw [hv] at h
      simp only at h ⊢
      by_cases c2 : (putN m l.length).2 = true ∧ (putN m l.length).1 = l
      · rw [if_pos c2] at h; cases h
      · rw [if_neg c2]
theorem uptoL_padTo {n : Nat} {s : ByteArray} (hs : (0 : Int) ∉ bytesOf s) : uptoL (padTo n s) = bytesOf s := by
  unfold uptoL padTo
  generalize bytesOf s = b at hs
  induction b with
  | nil =>
    rw [List.nil_append]
    cases n - s.size with
    | zero => rfl
    | succ k => rfl
  | cons c b ih =>
    rw [List.cons_append, List.takeWhile_cons_of_pos (by simp only [bne_iff_ne]; exact fun e => hs (by rw [e]; exact List.mem_cons_self)), ih (fun h => hs (List.mem_cons_of_mem _ h))]
/-- The header that a block seems to be. -/
def guess (b : List Int) : Hd :=
  ⟨strOfNums (uptoL (sub b 0 100)), if b.getD 156 0 = 77 then ⟨#[]⟩ else strOfNums (uptoL (sub b 345 155)), strOfNums (uptoL (sub b 157 100)),
    (getN (sub b 100 8)).1, (getN (sub b 108 8)).1, (getN (sub b 116 8)).1, (getN (sub b 124 12)).1, (getN (sub b 136 12)).1, b.getD 156 0,
    if b.getD 156 0 = 77 then (getN (sub b 369 12)).1 else 0, if b.getD 156 0 = 77 then (getN (sub b 483 12)).1 else 0⟩
def hd0 : Hd := ⟨⟨#[]⟩, ⟨#[]⟩, ⟨#[]⟩, 0, 0, 0, 0, 0, 0, 0, 0⟩
/-- What head.Get tells: the header and an error's number. -/
def headGet (b : List Int) : Hd × Int :=
  if b.length ≠ 512 then (hd0, 1)
  else if b.all (fun c => c == 0) = true then (hd0, 4)
  else if sub b 148 8 ≠ signL (sumL b 0) then (hd0, 3)
  else if (headPut (guess b)).2 = true ∧ (headPut (guess b)).1 = b then (guess b, 0) else (hd0, 2)

end Go.Proofs.Ytoahjigjlgcjkaa.X
