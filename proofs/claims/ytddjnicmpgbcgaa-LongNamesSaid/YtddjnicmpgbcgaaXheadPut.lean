import Derived.Test.YtddjnicmpgbcgaaXK
import Derived.Test.YtddjnicmpgbcgaaXGnum
import Derived.Test.YtddjnicmpgbcgaaXheadMay
import Derived.Test.YtddjnicmpgbcgaaXheadsignedsum
import Derived.Test.YtddjnicmpgbcgaaXheadwords
import Derived.Test.YtddjnicmpgbcgaaYConv
import Derived.Test.YtddjnicmpgbcgaaYCopy
import Derived.Test.YtddjnicmpgbcgaaYIter
import Derived.BigQuiet
import Derived.Deep.QuietTactic
import Derived.Deep.RegionHeld3
import Derived.Laws.EntriesVeiled
import Derived.Lib.SlBytesConst
import Derived.RegionTactic
import Derived.WalkSpells
namespace Go.Proofs.Ytddjnicmpgbcgaa.X
open Go.RowKit Go.Proofs.YtddjnicmpgbcgaaW.PrintWords Go.Proofs.YtddjnicmpgbcgaaW.PrintLast Go.Proofs.YtddjnicmpgbcgaaW.PrintMore
attribute [local go_sem] max2_int min2_int max_two min_two max_three min_three max_four min_four
set_option linter.unusedVariables false
set_option linter.unusedSimpArgs false

open Go.Proofs.YtddjnicmpgbcgaaY
def layWord (b : List Int) (x : Int × Int × Nat × ByteArray) : List Int := splice b x.1.toNat (bytesOf x.2.2.2)
def layNum (b : List Int) (x : Int × Int × Nat × Int) : List Int := splice b x.1.toNat (putN x.2.2.2 x.2.1).1
def blk1 (h : Hd) : List Int := (hdWords h).foldl layWord (List.replicate 512 0)
def blk2 (h : Hd) : List Int := (hdNumbers h).foldl layNum (blk1 h)
def blk3 (h : Hd) : List Int := splice (blk2 h) 156 [h.f8]
def blk4 (h : Hd) : List Int := layAll (blk3 h) 257 [[117, 115, 116, 97, 114], [0], [48, 48]]
/-- A header's block. -/
def hdBlk (h : Hd) : List Int := splice (blk4 h) 148 (signL (sumL (blk4 h) 0))
def byteOk (l : List Int) : Prop := ∀ c ∈ l, 0 ≤ c ∧ c ≤ 255
theorem byteOk_splice {l x : List Int} {p : Nat} (h : byteOk l) (k : byteOk x) : byteOk (splice l p x) := by
  intro c hc
  unfold splice at hc
  rw [List.mem_append, List.mem_append] at hc
  rcases hc with hc | hc | hc
  · exact h c (List.mem_of_mem_take hc)
  · exact k c hc
  · exact h c (List.mem_of_mem_drop hc)
theorem byteOk_bytesOf (s : ByteArray) : byteOk (bytesOf s) := by
  intro c hc
  unfold bytesOf at hc
  obtain ⟨b, _, rfl⟩ := List.mem_map.1 hc
  have := b.toNat_lt
  omega
theorem byteOk_bytL : ∀ (d n : Nat), byteOk (bytL n d)
  | 0, _, x, h => by simp [bytL] at h
  | d + 1, n, x, h => by
    rw [bytL, List.mem_append, List.mem_singleton] at h
    rcases h with h | rfl
    · exact byteOk_bytL d _ x h
    · have := Nat.mod_lt n (show 0 < 256 by decide); omega
theorem byteOk_putN (n w : Int) : byteOk (putN n w).1 := by
  unfold putN
  split
  · intro c hc; cases hc
  · split
    · intro c hc
      simp only [List.mem_append, List.mem_singleton] at hc
      rcases hc with hc | rfl
      · exact octL_range _ _ c hc
      · decide
    · split
      · intro c hc
        simp only [List.mem_cons] at hc
        rcases hc with rfl | hc
        · decide
        · exact byteOk_bytL _ _ c hc
      · intro c hc; cases hc
theorem putN_length {n w : Int} (h : (putN n w).2 = true) : (putN n w).1.length = w.toNat ∧ 2 ≤ w ∧ w ≤ 20 := by
  unfold putN at h ⊢
  split
  · rename_i c; rw [if_pos c] at h; cases h
  · rename_i c
    rw [if_neg c] at h
    split
    · rw [List.length_append, octL_length]; simp; omega
    · rename_i c2
      rw [if_neg c2] at h
      split
      · rw [List.length_cons, bytL_length]; omega
      · rename_i c3; rw [if_neg c3] at h; cases h
theorem R_of_block {w : World} {g base : Nat} {l : List Int} (hg : w.heap[g]? = some (.cells (nums .u8 l).toArray 5 (0, 0))) (hb : base ≤ g) (hl : l.length ≤ 9223372036854775807) :
    Kd.R (Kd.int .u8) 5 w base (fun _ => True) (.slice (some ⟨g, 0, none⟩) l.length l.length) l := by
  refine Kd.R_of_own (h1 := fun _ => rfl) (enc := Value.int .u8) ?_ (fun _ _ => trivial)
  refine ⟨by simp [encs], .inr ⟨g, l.length, (nums .u8 l).toArray, rfl, hb, hg, Nat.le_refl _, by simpa [maxLen] using hl, by simp [nums], ?_⟩⟩
  unfold nums encs
  simp only [List.toList_toArray, Nat.mul_one]
  exact List.take_of_length_le (by simp)
theorem made_nums (n : Nat) : madeCells #[Value.int .u8 0] n = (nums .u8 (List.replicate n 0)).toArray := by
  apply Array.ext_getElem?
  intro i
  unfold madeCells nums
  by_cases h : i < n <;> simp [h, Nat.mod_one]
/-- One row of bytes, handed on as a list of rows. -/
theorem rows1 {w : World} {b1 c : Nat} {A : Option Addr} {x : List Int} (hb1 : w.heap[b1]? = some (.cells #[.slice A x.length c] 50 (0, 0))) (hc : x.length ≤ c) (hC : Kd.C (Kd.int .u8) w A x.length x) :
    Kd.C (Kd.slice 5 (Kd.int .u8)) w (some ⟨b1, 0, none⟩) [x].length [x] := by
  refine ⟨rfl, by simp, fun _ => ⟨_, rfl, fun j p hp => ?_⟩⟩
  cases j with
  | succ j => simp at hp
  | zero =>
    simp only [List.getElem?_cons_zero, Option.some.injEq] at hp
    subst hp
    refine ⟨[.slice A x.length c], rfl, ⟨A, c, rfl, hc, hC⟩, fun i u hu => ?_⟩
    cases i with
    | succ i => simp at hu
    | zero =>
      simp only [List.getElem?_cons_zero, Option.some.injEq] at hu
      subst hu
      rw [add_plain, blk_cell hb1]
      simp
theorem C_block {w : World} {b : Nat} {x : List Int} (hb : w.heap[b]? = some (.cells (nums .u8 x).toArray 5 (0, 0))) (hl : x.length ≤ 9223372036854775807) : Kd.C (Kd.int .u8) w (some ⟨b, 0, none⟩) x.length x :=
  C_of_cells hl (fun j u hj => by rw [blk_cell hb j, List.getElem?_toArray]; exact hj)
theorem C_turn {w w' : World} {g : Nat} {A : Option Addr} {x : List Int} (h : Kd.C (Kd.int .u8) w A x.length x) (ht : Turn (fun k => k = g) w w') (hA : ∀ ad, A = some ad → ad.block ≠ g) : Kd.C (Kd.int .u8) w' A x.length x :=
  Kd.C_keep (enc := Value.int .u8) (h1 := fun _ => rfl) (0 : Int) h ht.keep (fun ad h _ => hA ad h)
/-- A row beside another block is a row still. -/
theorem rows1_turn {w w' : World} {g b1 c : Nat} {A : Option Addr} {x : List Int} (hb1 : w.heap[b1]? = some (.cells #[.slice A x.length c] 50 (0, 0))) (hc : x.length ≤ c) (hC : Kd.C (Kd.int .u8) w A x.length x) (hg1 : b1 ≠ g) (hA : ∀ ad, A = some ad → ad.block ≠ g) (ht : Turn (fun k => k = g) w w') :
    Kd.C (Kd.slice 5 (Kd.int .u8)) w' (some ⟨b1, 0, none⟩) [x].length [x] :=
  rows1 ((ht.block b1 (blk_lt hb1) hg1).trans hb1) hc (C_turn hC ht hA)
theorem bytes_C {W : World} {s : ByteArray} (hs : s.size ≤ 9223372036854775807) : Kd.C (Kd.int .u8) (Lib.bytesWorld W 5 s) (some ⟨W.heap.size, 0, none⟩) s.size (bytesOf s) := by
  have := C_of_cells (w := Lib.bytesWorld W 5 s) (g := W.heap.size) (l := bytesOf s) (by rw [bytesOf_length]; exact hs) (fun j u hj => bytes_cell hj)
  rwa [bytesOf_length] at this

/-- Where a block is laid: the page's row, the page, the header. -/
structure PageAt (w : World) (h : Hd) (g pb : Nat) (l : List Int) (W : World) : Prop where
  row : W.heap[g]? = some (.cells (nums .u8 l).toArray 5 (0, 0))
  box : W.heap[pb]? = some (.cells #[.slice (some ⟨g, 0, none⟩) 512 512] 87 (0, 0))
  hd : W.heap[w.heap.size]? = some (.cells (hdCells h).toArray 71 (0, 0))
  bel : Below w.heap.size w W
  len : l.length = 512
  byte : byteOk l
theorem PageAt.below {w : World} {h : Hd} {g pb : Nat} {l : List Int} {W W' : World} (k : PageAt w h g pb l W) (hb : Below W.heap.size W W') : PageAt w h g pb l W' :=
  ⟨blk_below k.row hb, blk_below k.box hb, blk_below k.hd hb, below_step k.bel hb, k.len, k.byte⟩
theorem PageAt.turn {w : World} {h : Hd} {g pb : Nat} {l l' : List Int} {W W' : World} (k : PageAt w h g pb l W) (ht : Turn (fun k => k = g) W W') (hrow : W'.heap[g]? = some (.cells (nums .u8 l').toArray 5 (0, 0))) (hl : l'.length = 512) (hby : byteOk l') (h1 : w.heap.size < g) (h2 : pb ≠ g) : PageAt w h g pb l' W' :=
  ⟨hrow, (ht.block _ (blk_lt k.box) h2).trans k.box, (ht.block _ (blk_lt k.hd) (by omega)).trans k.hd, k.bel.trans (ht.below (fun k hk => by omega) k.bel.size), hl, hby⟩
theorem hdWords_fit (h : Hd) (hok : (hdWords h).all (fun x => wordOk x.2.2.2 x.2.1) = true) : ∀ x ∈ hdWords h, 0 ≤ x.1 ∧ x.1.toNat + x.2.2.2.size < 512 := by
  intro x hx
  have h1 := List.all_eq_true.1 hok x hx
  unfold wordOk at h1
  simp only [Bool.and_eq_true, decide_eq_true_eq] at h1
  have h2 := h1.1
  clear h1
  unfold hdWords at hx
  split at hx
  · simp only [List.append_nil, List.mem_cons, List.not_mem_nil, or_false] at hx
    rcases hx with rfl | rfl <;> (simp only at h2 ⊢; omega)
  · simp only [List.cons_append, List.nil_append, List.mem_cons, List.not_mem_nil, or_false] at hx
    rcases hx with rfl | rfl | rfl <;> (simp only at h2 ⊢; omega)
theorem hdNumbers_fit (h : Hd) (hok : (hdNumbers h).all (fun x => (putN x.2.2.2 x.2.1).2) = true) : ∀ x ∈ hdNumbers h, 0 ≤ x.1 ∧ x.1.toNat + (putN x.2.2.2 x.2.1).1.length < 512 := by
  intro x hx
  have h1 := List.all_eq_true.1 hok x hx
  have h2 := putN_length h1
  clear h1
  unfold hdNumbers at hx
  split at hx
  · simp only [List.cons_append, List.nil_append, List.mem_cons, List.not_mem_nil, or_false] at hx
    rcases hx with rfl | rfl | rfl | rfl | rfl | rfl | rfl <;> (simp only at h2 ⊢; rw [h2.1]; decide)
  · simp only [List.append_nil, List.mem_cons, List.not_mem_nil, or_false] at hx
    rcases hx with rfl | rfl | rfl | rfl | rfl <;> (simp only at h2 ⊢; rw [h2.1]; decide)
theorem head_put1.at_ {w : World} {h : Hd} {g pb : Nat} {l : List Int} {W : World} (k : PageAt w h g pb l W) (at_ : Int) (h0 : 0 ≤ at_) (b1 c : Nat) (A : Option Addr) (x : List Int) (hb1 : W.heap[b1]? = some (.cells #[.slice A x.length c] 50 (0, 0))) (hc : x.length ≤ c) (hC : Kd.C (Kd.int .u8) W A x.length x) (hg1 : b1 ≠ g) (hA : ∀ ad, A = some ad → ad.block ≠ g) (hfit : at_.toNat + x.length < 512) (hx : byteOk x) (h1 : w.heap.size < g) (h2 : pb ≠ g) :
    Calls Try.prog 87 #[.agg #[.slice (some ⟨g, 0, none⟩) 512 512], .int .i64 at_, .slice (some ⟨b1, 0, none⟩) 1 1] W fun e w' => e = .returned (.tuple #[]) ∧ PageAt w h g pb (splice l at_.toNat x) w' ∧ Turn (fun k => k = g) W w' := by
  obtain ⟨n, rfl⟩ := Int.eq_ofNat_of_zero_le h0
  have hp : posAll n [x] = n + x.length := by simp [posAll]
  have := head_put.at_ g l n (some ⟨b1, 0, none⟩) 1 [x] W k.row (by rw [k.len]; decide) (by rw [hp, k.len]; exact hfit) (fun W' ht => rows1_turn hb1 hc hC hg1 hA ht)
  rw [k.len] at this
  refine this.mono ?_
  rintro e w' ⟨rfl, hr, ht⟩
  exact ⟨rfl, k.turn ht hr (by rw [Int.toNat_natCast, length_splice _ _ _ (by rw [k.len]; exact Nat.le_of_lt hfit)]; exact k.len) (byteOk_splice k.byte hx) h1 h2, ht⟩

/-- A text laid into the page: its bytes are a new row, handed on as the one row of a list. -/
theorem head_putS.at_ {w : World} {h : Hd} {g pb : Nat} {l : List Int} {W : World} (k : PageAt w h g pb l W) (at_ : Int) (h0 : 0 ≤ at_) (s : ByteArray) (hfit : at_.toNat + s.size < 512) (h1 : w.heap.size < g) (h2 : pb ≠ g) (hgW : g < W.heap.size) :
    Calls Try.prog 87 #[.agg #[.slice (some ⟨g, 0, none⟩) 512 512], .int .i64 at_, .slice (some ⟨(Lib.bytesWorld W 5 s).heap.size, 0, none⟩) 1 1] ((Lib.bytesWorld W 5 s).alloc (.cells #[.slice (some ⟨W.heap.size, 0, none⟩) s.size (grownCap W s.size 0 5)] 50)) fun e w' => e = .returned (.tuple #[]) ∧ PageAt w h g pb (splice l at_.toNat (bytesOf s)) w' ∧ Turn (fun k => k = g) ((Lib.bytesWorld W 5 s).alloc (.cells #[.slice (some ⟨W.heap.size, 0, none⟩) s.size (grownCap W s.size 0 5)] 50)) w' ∧ (∀ a v, W.cell? a = some v → a.block ≠ g → w'.cell? a = some v) := by
  have hbs := Lib.bytesWorld_size W 5 s
  have hB : Below W.heap.size W ((Lib.bytesWorld W 5 s).alloc (.cells #[.slice (some ⟨W.heap.size, 0, none⟩) s.size (grownCap W s.size 0 5)] 50)) := (bytes_below (Below.refl _ _) (Nat.le_refl _) 5 s).alloc (by omega) _
  have hbo := bytesOf_length s
  have hcc := bytes_C (W := W) (s := s) (by omega)
  refine (head_put1.at_ (k.below hB) at_ h0 (Lib.bytesWorld W 5 s).heap.size (grownCap W s.size 0 5) (some ⟨W.heap.size, 0, none⟩) (bytesOf s) ?_ (by rw [hbo]; exact grownCap_ge _ _ _ _) ?_ (by omega) ?_ (by rw [hbo]; exact hfit) (byteOk_bytesOf s) h1 h2).mono ?_
  · rw [hbo]
    exact heap_alloc_new _ _
  · rw [hbo]
    exact Kd.C_below hcc (below_alloc (Below.refl _ _) _)
  · intro ad h
    cases h
    simp only
    omega
  · rintro e w' ⟨he, hp, ht⟩
    refine ⟨he, hp, ht, fun a v hv hne => ?_⟩
    have h3 := pw_cell_below hB hv
    have h4 : a.block < ((Lib.bytesWorld W 5 s).alloc (.cells #[.slice (some ⟨W.heap.size, 0, none⟩) s.size (grownCap W s.size 0 5)] 50)).heap.size := World.block_lt_of_cell? _ a h3
    rw [← h3]
    unfold World.cell?
    rw [ht.block a.block h4 hne]
/-- Bytes that are written out, laid into the page. -/
theorem head_putB.at_ {w : World} {h : Hd} {g pb : Nat} {l : List Int} {W : World} (k : PageAt w h g pb l W) (at_ : Int) (h0 : 0 ≤ at_) (x : List Int) (hfit : at_.toNat + x.length < 512) (hx : byteOk x) (h1 : w.heap.size < g) (h2 : pb ≠ g) :
    Calls Try.prog 87 #[.agg #[.slice (some ⟨g, 0, none⟩) 512 512], .int .i64 at_, .slice (some ⟨W.heap.size + 1, 0, none⟩) 1 1] ((W.alloc (.cells (nums .u8 x).toArray 5)).alloc (.cells #[.slice (some ⟨W.heap.size, 0, none⟩) x.length x.length] 50)) fun e w' => e = .returned (.tuple #[]) ∧ PageAt w h g pb (splice l at_.toNat x) w' := by
  have hgW := blk_lt k.row
  have hB : Below W.heap.size W ((W.alloc (.cells (nums .u8 x).toArray 5)).alloc (.cells #[.slice (some ⟨W.heap.size, 0, none⟩) x.length x.length] 50)) := below_alloc (below_alloc (Below.refl _ _) _) _
  refine (head_put1.at_ (k.below hB) at_ h0 (W.heap.size + 1) x.length (some ⟨W.heap.size, 0, none⟩) x ?_ (Nat.le_refl _) ?_ (by omega) ?_ hfit hx h1 h2).mono ?_
  · have := heap_alloc_new (W.alloc (.cells (nums .u8 x).toArray 5)) (.cells #[.slice (some ⟨W.heap.size, 0, none⟩) x.length x.length] 50)
    rwa [World.size_alloc] at this
  · exact C_block (blk_alloc (heap_alloc_new W _) _) (by omega)
  · intro ad h
    cases h
    simp only
    omega
  · rintro e w' ⟨he, hp, _⟩
    exact ⟨he, hp⟩
theorem C_blockM {w : World} {b : Nat} {x : List Int} {m : Nat × Nat} (hb : w.heap[b]? = some (.cells (nums .u8 x).toArray 5 m)) (hl : x.length ≤ 9223372036854775807) : Kd.C (Kd.int .u8) w (some ⟨b, 0, none⟩) x.length x :=
  C_of_cells hl (fun j u hj => by rw [cell_of_row w b j _ _ m hb, List.getElem?_toArray]; exact hj)
theorem head_put3.at_ {w : World} {h : Hd} {g pb : Nat} {l : List Int} {W : World} (k : PageAt w h g pb l W) (h1 : w.heap.size < g) (h2 : pb ≠ g) :
    Calls Try.prog 87 #[.agg #[.slice (some ⟨g, 0, none⟩) 512 512], .int .i64 257, .slice (some ⟨W.heap.size + 1 + 1 + 1, 0, none⟩) 3 3] ((((W.alloc (.cells #[.int .u8 117, .int .u8 115, .int .u8 116, .int .u8 97, .int .u8 114] 5 (5, 6))).alloc (.cells #[.int .u8 0] 5)).alloc (.cells #[.int .u8 48, .int .u8 48] 5 (2, 3))).alloc (.cells #[.slice (some ⟨W.heap.size, 0, none⟩) 5 5, .slice (some ⟨W.heap.size + 1, 0, none⟩) 1 1, .slice (some ⟨W.heap.size + 1 + 1, 0, none⟩) 2 2] 50)) fun e w' => e = .returned (.tuple #[]) ∧ PageAt w h g pb (layAll l 257 [[117, 115, 116, 97, 114], [0], [48, 48]]) w' := by
  have hgW := blk_lt k.row
  obtain ⟨W4, hW4⟩ : ∃ W4, ((((W.alloc (.cells #[.int .u8 117, .int .u8 115, .int .u8 116, .int .u8 97, .int .u8 114] 5 (5, 6))).alloc (.cells #[.int .u8 0] 5)).alloc (.cells #[.int .u8 48, .int .u8 48] 5 (2, 3))).alloc (.cells #[.slice (some ⟨W.heap.size, 0, none⟩) 5 5, .slice (some ⟨W.heap.size + 1, 0, none⟩) 1 1, .slice (some ⟨W.heap.size + 1 + 1, 0, none⟩) 2 2] 50)) = W4 := ⟨_, rfl⟩
  have hB : Below W.heap.size W W4 := by rw [← hW4]; exact below_alloc (below_alloc (below_alloc (below_alloc (Below.refl _ _) _) _) _) _
  have b0 : W4.heap[W.heap.size]? = some (.cells (nums .u8 [117, 115, 116, 97, 114]).toArray 5 (5, 6)) := by rw [← hW4]; exact blk_alloc (blk_alloc (blk_alloc (heap_alloc_new W _) _) _) _
  have b1 : W4.heap[W.heap.size + 1]? = some (.cells (nums .u8 [0]).toArray 5 (0, 0)) := by
    rw [← hW4]
    have := heap_alloc_new (W.alloc (.cells #[.int .u8 117, .int .u8 115, .int .u8 116, .int .u8 97, .int .u8 114] 5 (5, 6))) (.cells #[.int .u8 0] 5)
    rw [World.size_alloc] at this
    exact blk_alloc (blk_alloc this _) _
  have b2 : W4.heap[W.heap.size + 1 + 1]? = some (.cells (nums .u8 [48, 48]).toArray 5 (2, 3)) := by
    rw [← hW4]
    have := heap_alloc_new ((W.alloc (.cells #[.int .u8 117, .int .u8 115, .int .u8 116, .int .u8 97, .int .u8 114] 5 (5, 6))).alloc (.cells #[.int .u8 0] 5)) (.cells #[.int .u8 48, .int .u8 48] 5 (2, 3))
    rw [World.size_alloc, World.size_alloc] at this
    exact blk_alloc this _
  have b3 : W4.heap[W.heap.size + 1 + 1 + 1]? = some (.cells #[.slice (some ⟨W.heap.size, 0, none⟩) 5 5, .slice (some ⟨W.heap.size + 1, 0, none⟩) 1 1, .slice (some ⟨W.heap.size + 1 + 1, 0, none⟩) 2 2] 50 (0, 0)) := by
    rw [← hW4]
    have := heap_alloc_new (((W.alloc (.cells #[.int .u8 117, .int .u8 115, .int .u8 116, .int .u8 97, .int .u8 114] 5 (5, 6))).alloc (.cells #[.int .u8 0] 5)).alloc (.cells #[.int .u8 48, .int .u8 48] 5 (2, 3))) (.cells #[.slice (some ⟨W.heap.size, 0, none⟩) 5 5, .slice (some ⟨W.heap.size + 1, 0, none⟩) 1 1, .slice (some ⟨W.heap.size + 1 + 1, 0, none⟩) 2 2] 50)
    rwa [World.size_alloc, World.size_alloc, World.size_alloc] at this
  rw [hW4]
  clear hW4
  have k4 := k.below hB
  have hrows : ∀ W', Turn (fun k => k = g) W4 W' → Kd.C (Kd.slice 5 (Kd.int .u8)) W' (some ⟨W.heap.size + 1 + 1 + 1, 0, none⟩) ([[117, 115, 116, 97, 114], [0], [48, 48]] : List (List Int)).length [[117, 115, 116, 97, 114], [0], [48, 48]] := by
    intro W' ht
    have c0 := (ht.block _ (blk_lt b0) (by omega)).trans b0
    have c1 := (ht.block _ (blk_lt b1) (by omega)).trans b1
    have c2 := (ht.block _ (blk_lt b2) (by omega)).trans b2
    have c3 := (ht.block _ (blk_lt b3) (by omega)).trans b3
    refine ⟨rfl, by decide, fun _ => ⟨_, rfl, fun j p hp => ?_⟩⟩
    match j, hp with
    | 0, hp =>
      simp only [List.getElem?_cons_zero, Option.some.injEq] at hp
      subst hp
      refine ⟨[.slice (some ⟨W.heap.size, 0, none⟩) 5 5], rfl, ⟨_, _, rfl, Nat.le_refl _, C_blockM c0 (by decide)⟩, fun i u hu => ?_⟩
      cases i with
      | succ i => simp at hu
      | zero => rw [add_plain, blk_cell c3]; exact hu
    | 1, hp =>
      simp only [List.getElem?_cons_succ, List.getElem?_cons_zero, Option.some.injEq] at hp
      subst hp
      refine ⟨[.slice (some ⟨W.heap.size + 1, 0, none⟩) 1 1], rfl, ⟨_, _, rfl, Nat.le_refl _, C_blockM c1 (by decide)⟩, fun i u hu => ?_⟩
      cases i with
      | succ i => simp at hu
      | zero => rw [add_plain, blk_cell c3]; exact hu
    | 2, hp =>
      simp only [List.getElem?_cons_succ, List.getElem?_cons_zero, Option.some.injEq] at hp
      subst hp
      refine ⟨[.slice (some ⟨W.heap.size + 1 + 1, 0, none⟩) 2 2], rfl, ⟨_, _, rfl, Nat.le_refl _, C_blockM c2 (by decide)⟩, fun i u hu => ?_⟩
      cases i with
      | succ i => simp at hu
      | zero => rw [add_plain, blk_cell c3]; exact hu
    | j + 3, hp => simp at hp
  have hp : posAll 257 [[117, 115, 116, 97, 114], [0], [48, 48]] = 265 := by simp [posAll]
  have := head_put.at_ g l 257 (some ⟨W.heap.size + 1 + 1 + 1, 0, none⟩) 3 [[117, 115, 116, 97, 114], [0], [48, 48]] W4 k4.row (by rw [k4.len]; decide) (by rw [hp, k4.len]; decide) hrows
  rw [k4.len] at this
  refine this.mono ?_
  rintro e w' ⟨rfl, hr, ht⟩
  refine ⟨rfl, k4.turn ht hr (by rw [layAll_length _ _ _ (by rw [hp, k4.len]; decide)]; exact k4.len) ?_ h1 h2⟩
  exact byteOk_splice (byteOk_splice (byteOk_splice k4.byte (by intro c hc; simp only [List.mem_cons, List.not_mem_nil, or_false] at hc; omega)) (by intro c hc; simp only [List.mem_cons, List.not_mem_nil, or_false] at hc; omega)) (by intro c hc; simp only [List.mem_cons, List.not_mem_nil, or_false] at hc; omega)
theorem R_turn {α : Type} {d : Kd α} {e base g : Nat} {ok : Nat → Prop} {w w' : World} {v : Value} {xs : List α} (h : d.R e w base ok v xs) (ht : Turn (fun k => k = g) w w') (hg : g < base) : d.R e w' base ok v xs :=
  Kd.R_mono (Kd.R_move (Kd.R_bound h) (fun k hk => ht.block k hk.2.2.1 (by have := hk.2.1; omega))) (fun _ hk => hk.1)
theorem signL_byte (n : Int) : byteOk (signL n) := by
  intro c hc
  unfold signL at hc
  simp only [List.mem_append, List.mem_cons, List.not_mem_nil, or_false] at hc
  rcases hc with hc | rfl | rfl
  · exact octL_range _ _ c hc
  · decide
  · decide
theorem hdOk_parts {h : Hd} (hok : hdOk h = true) : (hdWords h).all (fun x => wordOk x.2.2.2 x.2.1) = true ∧ (hdNumbers h).all (fun x => (putN x.2.2.2 x.2.1).2) = true := by
  unfold hdOk at hok
  simp only [Bool.and_eq_true] at hok
  exact hok.2
set_option maxHeartbeats 1600000 in
set_option maxRecDepth 100000 in
theorem head_Put.ok (h : Hd) (w : World) (hh : hdIn h) (hok : hdOk h = true) :
    Calls Try.prog 62 #[.agg (hdCells h).toArray] w fun e w' => ∃ v, e = .returned (.tuple #[v, .bool true]) ∧ Kd.R (Kd.int .u8) 5 w' w.heap.size (fun _ => True) v (hdBlk h) ∧ Below w.heap.size w w' := by
  obtain ⟨hW1, hN1⟩ := hdOk_parts hok
  have hW := hdWords_cell h
  have hN := hdNumbers_cell h hh
  have hWf := hdWords_fit h hW1
  have hNf := hdNumbers_fit h hN1
  have hmay : ∀ W, Calls Try.prog 85 #[.agg (hdCells h).toArray] W fun e w' => e = .returned (.bool true) ∧ Below W.heap.size W w' := fun W => head_May.calls h.f0 h.f1 h.f2 h.f3 h.f4 h.f5 h.f6 h.f7 h.f8 h.f9 h.f10 true W (by unfold head_May.f; rw [if_pos hh, hok])
  have hwl := words_hd w.heap.size h
  have hnl := numbers_hd w.heap.size h
  have hcw := fun (W : World) (hb : W.heap[w.heap.size]? = some (.cells (hdCells h).toArray 71 (0, 0))) => head_words.at_ w.heap.size (hdCells h).toArray h.f8 rfl W hb
  have hcn := fun (W : World) (hb : W.heap[w.heap.size]? = some (.cells (hdCells h).toArray 71 (0, 0))) => head_numbers.at_ w.heap.size (hdCells h).toArray h.f8 rfl W hb
  rw [hwl] at hcw
  rw [hnl] at hcn
  have hblk : hdBlk h = splice (layAll (splice ((hdNumbers h).foldl layNum ((hdWords h).foldl layWord (List.replicate 512 0))) 156 [h.f8]) 257 [[117, 115, 116, 97, 114], [0], [48, 48]]) 148 (signL (sumL (layAll (splice ((hdNumbers h).foldl layNum ((hdWords h).foldl layWord (List.replicate 512 0))) 156 [h.f8]) 257 [[117, 115, 116, 97, 114], [0], [48, 48]]) 0)) := rfl
  rw [hblk]
  have hty : 0 ≤ h.f8 ∧ h.f8 ≤ 255 := hh.1
  clear hblk hwl hnl hh hok hW1 hN1
  have hwm : (hdWords h).length ≤ 9223372036854775807 := by unfold hdWords; split <;> simp
  have hnm : (hdNumbers h).length ≤ 9223372036854775807 := by unfold hdNumbers; split <;> simp
  generalize hdWords h = ws at *
  generalize hdNumbers h = ns at *
  have hcw2 : ∀ (W : World) (hb : W.heap[w.heap.size]? = some (.cells (hdCells h).toArray 71 (0, 0))), Calls Try.prog 86 #[.pointer (some ⟨w.heap.size, 0, none⟩)] W fun e w' => ∃ A c, e = .returned (.slice A ws.length c) ∧ Kd.R kSpot 93 w' W.heap.size (fun _ => True) (.slice A ws.length c) (ws.map fun x => (x.1, x.2.1, ⟨w.heap.size, x.2.2.1, none⟩)) ∧ Below W.heap.size W w' := fun W hb => (hcw W hb).mono (by
    rintro e w' ⟨v, rfl, hR, hB⟩
    obtain ⟨A, c, hv⟩ := Kd.R_slice hR
    rw [List.length_map] at hv
    subst hv
    exact ⟨A, c, rfl, hR, hB⟩)
  have hcn2 : ∀ (W : World) (hb : W.heap[w.heap.size]? = some (.cells (hdCells h).toArray 71 (0, 0))), Calls Try.prog 88 #[.pointer (some ⟨w.heap.size, 0, none⟩)] W fun e w' => ∃ A c, e = .returned (.slice A ns.length c) ∧ Kd.R kSpot 99 w' W.heap.size (fun _ => True) (.slice A ns.length c) (ns.map fun x => (x.1, x.2.1, ⟨w.heap.size, x.2.2.1, none⟩)) ∧ Below W.heap.size W w' := fun W hb => (hcn W hb).mono (by
    rintro e w' ⟨v, rfl, hR, hB⟩
    obtain ⟨A, c, hv⟩ := Kd.R_slice hR
    rw [List.length_map] at hv
    subst hv
    exact ⟨A, c, rfl, hR, hB⟩)
  have HCW := Aside0.mk hcw2
  have HCN := Aside0.mk hcn2
  have HW := Aside0.mk hW
  have HN := Aside0.mk hN
  have HWF := Aside0.mk hWf
  have HNF := Aside0.mk hNf
  have HMAY := Aside0.mk hmay
  have hmk : ∀ W : World, (Instr.makeSlice 50 (.int .i64 512) (.int .i64 512)).run Try.prog W = .ok (.slice (some ⟨W.heap.size, 0, none⟩) 512 512) (W.alloc (.cells (nums .u8 (List.replicate 512 0)).toArray 5)) := by
    intro W
    obtain ⟨i0, hi, hz0, hz1, hz2⟩ := info_parts info5
    have := run_make (P := Try.prog) W 50 5 i0 (.int .u8 0) Try.underlying50 hi hz0 .i64 .i64 512 512 (by decide) (by decide) (by rw [hz2]; decide) (by decide)
    rw [this, hz1]
    show Result.ok _ (W.alloc (.cells (madeCells #[Value.int .u8 0] 512) _)) = _
    rw [made_nums]
    rfl
  obtain ⟨z0, hz0⟩ : ∃ z0, List.replicate 512 (0 : Int) = z0 := ⟨_, rfl⟩
  have hzl : z0.length = 512 := by rw [← hz0, List.length_replicate]
  have hzb : byteOk z0 := by rw [← hz0]; intro c hc; obtain rfl := List.eq_of_mem_replicate hc; decide
  rw [hz0] at hmk ⊢
  have HZL := Aside0.mk hzl
  have HZB := Aside0.mk hzb
  have HBX := Aside0.mk (heap_alloc_new w (.cells (hdCells h).toArray 71))
  have HB0 := Aside0.mk (below_alloc (Below.refl w.heap.size w) (.cells (hdCells h).toArray 71))
  obtain ⟨f0, f1, f2, f3, f4, f5, f6, f7, f8, f9, f10⟩ := h
  clear hcw hcn hcw2 hcn2 hW hN hWf hNf hmay hz0 hzl hzb
  simp only [hdCells] at HMAY HBX HB0 ⊢
  go_enter Try.func62, Try.ntmps62
  go_wp2_with (first | (go_at_call 85; refine (HMAY.out _).mono ?_; rintro e w1 ⟨rfl, hb1⟩; have PG := Aside0.mk (PageAt.mk (w := w) (h := ⟨f0, f1, f2, f3, f4, f5, f6, f7, f8, f9, f10⟩) (g := w1.heap.size) (pb := w1.heap.size + 1) (l := z0) (W := ((w1.alloc (.cells (nums .u8 z0).toArray 5)).alloc (.cells #[.slice (some ⟨w1.heap.size, 0, none⟩) 512 512] 87))) (blk_alloc (heap_alloc_new w1 _) _) (by have := heap_alloc_new (w1.alloc (.cells (nums .u8 z0).toArray 5)) (.cells #[.slice (some ⟨w1.heap.size, 0, none⟩) 512 512] 87); rwa [World.size_alloc] at this) (blk_alloc (blk_alloc (blk_below HBX.out hb1) _) _) (by have h1 := below_step HB0.out hb1; exact (h1.alloc h1.size _).alloc (by have := h1.size; simp; omega) _) HZL.out HZB.out); have hgs : w.heap.size + 1 ≤ w1.heap.size := (by have := hb1.size; simpa using this); clear hb1 HBX HB0) | (go_at_call 86; refine (HCW.out _ PG.out.hd).mono ?_; rintro e w2 ⟨A1, c1, rfl, hR, hb2⟩; have HR1 := Aside0.mk (Kd.R_lower (base' := w1.heap.size + 2) hR (by simp)); have PG2 := Aside0.mk (PG.out.below hb2); clear PG hR hb2; have PG := PG2; clear PG2))
  obtain ⟨g, hg⟩ : ∃ g, w1.heap.size = g := ⟨_, rfl⟩
  rw [hg] at hgs HR1 PG ⊢
  clear hg
  generalize hHD : (⟨f0, f1, f2, f3, f4, f5, f6, f7, f8, f9, f10⟩ : Hd) = hd at *
  have hc8 : (hdCells hd)[8]? = some (.int .u8 f8) := by rw [← hHD]; rfl
  have HC8 := Aside0.mk hc8
  clear hHD hc8 hmk
  have kc := fun (w : World) (C : Array Value) (n c : Nat) => Lib.run_convert_bytes_const (P := Try.prog) w 50 5 C n c Try.underlying50 Try.underlying5
  go_loopw [19] (fun v19 wr => ∃ k : Nat, v19 = .int .i64 k ∧ k ≤ ws.length ∧ Aside0 (PageAt w hd g (g + 1) ((ws.take k).foldl layWord z0) wr) ∧ Aside0 (Kd.R kSpot 93 wr (g + 2) (fun _ => True) (.slice A1 ws.length c1) (ws.map fun x => (x.1, x.2.1, ⟨w.heap.size, x.2.2.1, none⟩)))) (fun v19 _ => ws.length - (intOf v19).toNat)
  case atStart => exact ⟨0, rfl, Nat.zero_le _, PG, HR1⟩
  case round =>
    obtain ⟨k, rfl, hk, PK, HR⟩ := hrel
    clear PG HR1
    by_cases hlt : k < ws.length
    · obtain ⟨g1, c, hv, hgb, k0, k1, k2⟩ := kSpot_at HR.out (k := k) (by rw [List.length_map]; exact hlt)
      rw [List.length_map] at hv
      injection hv with e1 e2 e3
      subst e1 e3
      clear e2
      simp only [List.getElem_map] at k0 k1 k2
      obtain ⟨hcell, _, _, _, _⟩ := HW.out ws[k] (List.getElem_mem hlt)
      obtain ⟨hfit0, hfit⟩ := HWF.out ws[k] (List.getElem_mem hlt)
      have htk : (ws.take (k + 1)).foldl layWord z0 = layWord ((ws.take k).foldl layWord z0) ws[k] := by rw [List.take_succ_eq_append_getElem hlt, List.foldl_append]; rfl
      obtain ⟨cur, hcur⟩ : ∃ cur, (ws.take k).foldl layWord z0 = cur := ⟨_, rfl⟩
      rw [hcur] at PK htk
      generalize ws[k] = x at *
      obtain ⟨xa, xw, xj, xs⟩ := x
      simp only at k0 k1 k2 hcell hfit0 hfit
      have HTK := Aside0.mk htk
      have hlt2 : (k : Int) < (ws.length : Int) := by omega
      have hk0 : (0 : Int) ≤ (k : Int) := by omega
      have hgw : g + 1 < wr.heap.size := blk_lt PK.out.box
      have hwg : w.heap.size < g := by omega
      clear htk hcur
      have PN := Aside0.mk (PK.out.below (below_alloc (Below.refl _ _) (.cells #[.int .i64 xa, .int .i64 xw, .pointer (some ⟨w.heap.size, xj, none⟩)] 93)))
      have RN := Aside0.mk (Kd.R_alloc HR.out (.cells #[.int .i64 xa, .int .i64 xw, .pointer (some ⟨w.heap.size, xj, none⟩)] 93))
      have y0 := blk_cell (heap_alloc_new wr (.cells #[.int .i64 xa, .int .i64 xw, .pointer (some ⟨w.heap.size, xj, none⟩)] 93)) 0
      have y2 := blk_cell (heap_alloc_new wr (.cells #[.int .i64 xa, .int .i64 xw, .pointer (some ⟨w.heap.size, xj, none⟩)] 93)) 2
      simp only [List.getElem?_toArray, List.getElem?_cons_succ, List.getElem?_cons_zero] at y0 y2
      have y3 := (blk_cell PN.out.hd xj).trans (by simpa using hcell)
      have y4 := (blk_cell PN.out.box 0)
      simp only [List.getElem?_toArray, List.getElem?_cons_succ, List.getElem?_cons_zero] at y4
      have hsz : (wr.alloc (.cells #[.int .i64 xa, .int .i64 xw, .pointer (some ⟨w.heap.size, xj, none⟩)] 93)).heap.size = wr.heap.size + 1 := by simp
      clear PK HR
      go_wp2_with (fail)
      obtain ⟨W2, hW2⟩ : ∃ W2, wr.alloc (.cells #[.int .i64 xa, .int .i64 xw, .pointer (some ⟨w.heap.size, xj, none⟩)] 93) = W2 := ⟨_, rfl⟩
      rw [hW2] at PN RN y0 y2 y3 y4 hsz ⊢
      clear hW2 k0 k1 k2
      have HSZ := Aside0.mk hsz
      have kb := fun W => print_bytes (P := Try.prog) 9 50 5 Try.underlying9 Try.underlying50 Try.underlying5 xs W
      have q0 := (Lib.bytesWorld_old W2.drew 5 xs ⟨wr.heap.size, 0, none⟩ (by show wr.heap.size < W2.heap.size; omega)).trans y0
      have q2 := (Lib.bytesWorld_old W2.drew 5 xs ⟨wr.heap.size, 2, none⟩ (by show wr.heap.size < W2.heap.size; omega)).trans y2
      have q3 := (Lib.bytesWorld_old W2.drew 5 xs ⟨w.heap.size, xj, none⟩ (by show w.heap.size < W2.heap.size; omega)).trans y3
      have q4 := (Lib.bytesWorld_old W2.drew 5 xs ⟨g + 1, 0, none⟩ (by show g + 1 < W2.heap.size; omega)).trans y4
      clear hsz
      have hput := head_putS.at_ (PN.out.below (below_drew (Below.refl _ _))) xa hfit0 xs hfit (by omega) (by omega) (by have := HSZ.out; show g < W2.heap.size; omega)
      refine wp_region_held_drew (S := fun w' => w'.cell? ⟨wr.heap.size, 0, none⟩ = some (.int .i64 xa) ∧ w'.cell? ⟨wr.heap.size, 2, none⟩ = some (.pointer (some ⟨w.heap.size, xj, none⟩)) ∧ w'.cell? ⟨w.heap.size, xj, none⟩ = some (.string xs) ∧ w'.cell? ⟨g + 1, 0, none⟩ = some (.slice (some ⟨g, 0, none⟩) 512 512)) (by kernel_rfl) ⟨y0, y2, y3, y4⟩ (fun hHeld => ?_)
      refine wpAnyH_take (i := 0) (v := ?_) rfl (by kernel_rfl) (by kernel_rfl) (by kernel_rfl) (fun _ _ _ h => h) (Or.inl ⟨by rfl, ?_⟩) (by assumption) ?_
      rotate_left
      · intro w hSw
        try dsimp only at hSw
        go_simp
        try with_reducible rfl
      try simp only [Act.put, List.setIfInBounds_toArray, List.set_cons_zero, List.set_cons_succ]
      refine wpAnyH_take (i := 1) (v := ?_) rfl (by kernel_rfl) (by kernel_rfl) (by kernel_rfl) (fun _ _ _ h => h) (Or.inl ⟨by rfl, ?_⟩) (by assumption) ?_
      rotate_left
      · intro w hSw
        try dsimp only at hSw
        go_simp
        try with_reducible rfl
      try simp only [Act.put, List.setIfInBounds_toArray, List.set_cons_zero, List.set_cons_succ]
      refine wpAnyH_take (i := 2) (v := ?_) rfl (by kernel_rfl) (by kernel_rfl) (by kernel_rfl) (fun _ _ _ h => h) (Or.inl ⟨by rfl, ?_⟩) (by assumption) ?_
      rotate_left
      · intro w hSw
        try dsimp only at hSw
        go_simp
        try with_reducible rfl
      try simp only [Act.put, List.setIfInBounds_toArray, List.set_cons_zero, List.set_cons_succ]
      refine wpAnyH_take (i := 3) (v := ?_) rfl (by kernel_rfl) (by kernel_rfl) (by kernel_rfl) (fun _ _ _ h => h) (Or.inl ⟨by rfl, ?_⟩) (by assumption) ?_
      rotate_left
      · intro w hSw
        try dsimp only at hSw
        go_simp
        try with_reducible rfl
      try simp only [Act.put, List.setIfInBounds_toArray, List.set_cons_zero, List.set_cons_succ]
      refine wpAnyH_take (i := 4) (v := ?_) rfl (by kernel_rfl) (by kernel_rfl) (by kernel_rfl) (fun _ _ _ h => h) (Or.inl ⟨by rfl, ?_⟩) (by assumption) ?_
      rotate_left
      · intro w hSw
        try dsimp only at hSw
        go_simp
        try with_reducible rfl
      try simp only [Act.put, List.setIfInBounds_toArray, List.set_cons_zero, List.set_cons_succ]
      refine wpAnyH_take (i := 5) (v := ?_) rfl (by kernel_rfl) (by kernel_rfl) (by kernel_rfl) (fun _ _ _ h => h) (Or.inl ⟨by rfl, ?_⟩) (by assumption) ?_
      rotate_left
      · intro w hSw
        try dsimp only at hSw
        go_simp
        try with_reducible rfl
      try simp only [Act.put, List.setIfInBounds_toArray, List.set_cons_zero, List.set_cons_succ]
      refine wpAnyH_take (i := 6) (v := ?_) rfl (by kernel_rfl) (by kernel_rfl) (by kernel_rfl) (fun _ _ _ h => h) (Or.inl ⟨by rfl, ?_⟩) (by assumption) ?_
      rotate_left
      · intro w hSw
        try dsimp only at hSw
        go_simp
        try with_reducible rfl
      try simp only [Act.put, List.setIfInBounds_toArray, List.set_cons_zero, List.set_cons_succ]
      refine wpAnyH_take (i := 7) (v := ?_) rfl (by kernel_rfl) (by kernel_rfl) (by kernel_rfl) (fun _ _ _ h => h) (Or.inl ⟨by rfl, ?_⟩) (by assumption) ?_
      rotate_left
      · intro w hSw
        try dsimp only at hSw
        go_simp
        try with_reducible rfl
      try simp only [Act.put, List.setIfInBounds_toArray, List.set_cons_zero, List.set_cons_succ]
      refine wpAnyH_ready (rs := [8]) (by kernel_rfl) (by simp) ?_
      refine AllReadyH.cons rfl (fun K hK => ?_) AllReadyH.nil
      go_simp
      refine hK.out _ _ ⟨q0, q2, q3, q4⟩ (fun hHeld => ?_)
      clear hK K
      try simp only [Act.put, List.setIfInBounds_toArray, List.set_cons_zero, List.set_cons_succ]
      refine wpAnyH_ready (rs := [9]) (by kernel_rfl) (by simp) ?_
      refine AllReadyH.cons rfl (fun K hK => ?_) AllReadyH.nil
      go_simp
      refine hK.out _ _ ⟨pw_cell_below (below_alloc (Below.refl _ _) _) q0, pw_cell_below (below_alloc (Below.refl _ _) _) q2, pw_cell_below (below_alloc (Below.refl _ _) _) q3, pw_cell_below (below_alloc (Below.refl _ _) _) q4⟩ (fun hHeld => ?_)
      clear hK K
      try simp only [Act.put, List.setIfInBounds_toArray, List.set_cons_zero, List.set_cons_succ]
      refine wpAnyH_ready (rs := [10]) (by kernel_rfl) (by simp) ?_
      refine AllReadyH.cons rfl (fun K hK => ?_) AllReadyH.nil
      go_simp
      go_at_call 87
      refine hput.mono ?_
      rintro e w3 ⟨rfl, hPG, hT, hZ⟩
      have z0 := hZ ⟨wr.heap.size, 0, none⟩ _ y0 (by simp only; omega)
      have z2 := hZ ⟨wr.heap.size, 2, none⟩ _ y2 (by simp only; omega)
      have z3 := hZ ⟨w.heap.size, xj, none⟩ _ y3 (by simp only; omega)
      have z4 := hZ ⟨g + 1, 0, none⟩ _ y4 (by simp only; omega)
      refine hK.out _ _ ⟨z0, z2, z3, z4⟩ (fun hHeld => ?_)
      clear hK K
      refine wpAnyH_done (by kernel_rfl) ?_ _
      try simp only [Act.put, List.setIfInBounds_toArray, List.set_cons_zero, List.set_cons_succ]
      have hBW : Below W2.heap.size W2 ((Lib.bytesWorld W2.drew 5 xs).alloc (.cells #[.slice (some ⟨W2.heap.size, 0, none⟩) xs.size (grownCap W2.drew xs.size 0 5)] 50)) := (bytes_below (below_drew (Below.refl _ _)) (Nat.le_refl _) 5 xs).alloc (by rw [Lib.bytesWorld_size]; exact Nat.le_succ _) _
      have PF := Aside0.mk hPG
      have RF := Aside0.mk (R_turn (Kd.R_below RN.out hBW) hT (by omega))
      clear hPG hT hZ z0 z2 z3 z4 y0 y2 y3 y4 hput q0 q2 q3 q4 hBW PN RN
      go_wp2_with (fail)
      go_roundw
      case rel => exact ⟨k + 1, by go_num, by omega, ⟨by rw [HTK.out]; repeat (first | exact PF.out | refine PageAt.below ?_ (below_drew (Below.refl _ _)))⟩, ⟨by repeat (first | (with_reducible first | exact RF.out | apply Kd.R_drewN | apply Kd.R_drew) | exact RF.out)⟩⟩
      case measure => simp [intOf]; omega
    · obtain rfl : k = ws.length := by omega
      have PK2 := Aside0.mk (by have := PK.out; rwa [List.take_length] at this)
      clear PK HR
      obtain ⟨z1, hz1⟩ : ∃ z1, ws.foldl layWord z0 = z1 := ⟨_, rfl⟩
      rw [hz1] at PK2
      have HZ1 := Aside0.mk hz1
      have hgw : g + 1 < wr.heap.size := blk_lt PK2.out.box
      clear hz1
      go_wp2_with (first | (go_at_call 88; refine (HCN.out _ PK2.out.hd).mono ?_; rintro e w3 ⟨A2, c2, rfl, hR2, hb2⟩; have HR2 := Aside0.mk (Kd.R_lower (base' := g + 2) hR2 (by omega)); have PG := Aside0.mk (PK2.out.below hb2); clear hR2 hb2 PK2))
      obtain ⟨wo, hwo⟩ : ∃ wo : World, wo = wr := ⟨_, rfl⟩
      go_loopw [37] (fun v37 wr => ∃ k : Nat, v37 = .int .i64 k ∧ k ≤ ns.length ∧ Aside0 (PageAt w hd g (g + 1) ((ns.take k).foldl layNum z1) wr) ∧ Aside0 (Kd.R kSpot 99 wr (g + 2) (fun _ => True) (.slice A2 ns.length c2) (ns.map fun x => (x.1, x.2.1, ⟨w.heap.size, x.2.2.1, none⟩)))) (fun v37 _ => ns.length - (intOf v37).toNat)
      case atStart => exact ⟨0, rfl, Nat.zero_le _, PG, HR2⟩
      case round =>
        clear hwo
        obtain ⟨k, rfl, hk, PK, HR⟩ := hrel
        clear PG HR2
        by_cases hlt : k < ns.length
        · obtain ⟨g1, c, hv, hgb, k0, k1, k2⟩ := kSpot_at HR.out (k := k) (by rw [List.length_map]; exact hlt)
          rw [List.length_map] at hv
          injection hv with e1 e2 e3
          subst e1 e3
          clear e2
          simp only [List.getElem_map] at k0 k1 k2
          obtain ⟨hcell, _, _, _, _, hx5⟩ := HN.out ns[k] (List.getElem_mem hlt)
          obtain ⟨hfit0, hfit⟩ := HNF.out ns[k] (List.getElem_mem hlt)
          have htk : (ns.take (k + 1)).foldl layNum z1 = layNum ((ns.take k).foldl layNum z1) ns[k] := by rw [List.take_succ_eq_append_getElem hlt, List.foldl_append]; rfl
          obtain ⟨cur, hcur⟩ : ∃ cur, (ns.take k).foldl layNum z1 = cur := ⟨_, rfl⟩
          rw [hcur] at PK htk
          generalize ns[k] = x at *
          obtain ⟨xa, xw, xj, xn⟩ := x
          simp only at k0 k1 k2 hcell hfit0 hfit hx5
          obtain ⟨pl, pb, hput⟩ : ∃ l b, putN xn xw = (l, b) := ⟨_, _, rfl⟩
          have hby := byteOk_putN xn xw
          replace htk : (ns.take (k + 1)).foldl layNum z1 = splice cur xa.toNat pl := by
            rw [htk]
            unfold layNum
            simp only [hput]
          simp only [hput] at hfit hby
          have HPUT := Aside0.mk hput
          have HTK := Aside0.mk htk
          have HBY := Aside0.mk hby
          have hlt2 : (k : Int) < (ns.length : Int) := by omega
          have hk0 : (0 : Int) ≤ (k : Int) := by omega
          have hgw : g + 1 < wr.heap.size := blk_lt PK.out.box
          have hwg : w.heap.size < g := by omega
          clear htk hcur hput hby
          have PN := Aside0.mk (PK.out.below (below_alloc (Below.refl _ _) (.cells #[.int .i64 xa, .int .i64 xw, .pointer (some ⟨w.heap.size, xj, none⟩)] 99)))
          have RN := Aside0.mk (Kd.R_alloc HR.out (.cells #[.int .i64 xa, .int .i64 xw, .pointer (some ⟨w.heap.size, xj, none⟩)] 99))
          have y0 := blk_cell (heap_alloc_new wr (.cells #[.int .i64 xa, .int .i64 xw, .pointer (some ⟨w.heap.size, xj, none⟩)] 99)) 0
          have y1 := blk_cell (heap_alloc_new wr (.cells #[.int .i64 xa, .int .i64 xw, .pointer (some ⟨w.heap.size, xj, none⟩)] 99)) 1
          have y2 := blk_cell (heap_alloc_new wr (.cells #[.int .i64 xa, .int .i64 xw, .pointer (some ⟨w.heap.size, xj, none⟩)] 99)) 2
          simp only [List.getElem?_toArray, List.getElem?_cons_succ, List.getElem?_cons_zero] at y0 y1 y2
          have y3 := (blk_cell PN.out.hd xj).trans (by simpa using hcell)
          clear PK HR
          go_wp2_with (fail)
          obtain ⟨W2, hW2⟩ : ∃ W2, wr.alloc (.cells #[.int .i64 xa, .int .i64 xw, .pointer (some ⟨w.heap.size, xj, none⟩)] 99) = W2 := ⟨_, rfl⟩
          rw [hW2] at PN RN y0 y1 y2 y3 ⊢
          clear hW2 k0 k1 k2
          go_region_held3 (fun w' => w'.cell? ⟨wr.heap.size, 1, none⟩ = some (.int .i64 xw) ∧ w'.cell? ⟨wr.heap.size, 2, none⟩ = some (.pointer (some ⟨w.heap.size, xj, none⟩)) ∧ w'.cell? ⟨w.heap.size, xj, none⟩ = some (.int .i64 xn)) (go_keep) ((go_at_call 89; refine (num_Put.at_ _ _ _ _ _ hx5 HPUT).mono ?_; rintro e w4 ⟨A3, c3, rfl, hc3, hC3, hb3, hA3⟩; have z1 := pw_cell_below hb3 y1; have z2 := pw_cell_below hb3 y2; have z3 := pw_cell_below hb3 y3))
          have PF := Aside0.mk ((PN.out.below (below_drew (Below.refl _ _))).below hb3)
          have RF := Aside0.mk (Kd.R_below (Kd.R_drew RN.out) hb3)
          have z0 := pw_cell_below hb3 y0
          have z4 := (blk_cell PF.out.box 0)
          simp only [List.getElem?_toArray, List.getElem?_cons_succ, List.getElem?_cons_zero] at z4
          have hgA : ∀ ad, A3 = some ad → ad.block ≠ g := fun ad h => by have h5 := hA3 ad h; have h6 : g < W2.drew.heap.size := blk_lt PN.out.row; omega
          have hg4 : g < w4.heap.size := blk_lt PF.out.row
          have HCA := Aside0.mk (Kd.C_below hC3 (below_alloc (Below.refl w4.heap.size w4) (.cells #[.slice A3 pl.length c3] 50)))
          have PA := PF.out.below (below_alloc (Below.refl w4.heap.size w4) (.cells #[.slice A3 pl.length c3] 50))
          have RA := Aside0.mk (Kd.R_alloc RF.out (.cells #[.slice A3 pl.length c3] 50))
          have hcall := head_put1.at_ PA xa hfit0 w4.heap.size c3 A3 pl (heap_alloc_new w4 _) hc3 HCA.out (by omega) hgA hfit HBY.out hwg (by omega)
          clear PA z1 z2 z3 y0 y1 y2 y3 hb3 hC3 hA3 hc3 hgA PN RN PF RF HCA
          go_wp2_with (first | (go_at_call 87; refine hcall.mono ?_; rintro e w5 ⟨rfl, hPG, hT⟩))
          have PF := Aside0.mk hPG
          have RF := Aside0.mk (R_turn RA.out hT (by omega))
          clear hPG hT z0 z4 hcall RA
          go_roundw
          case rel => exact ⟨k + 1, by go_num, by omega, ⟨by rw [HTK.out]; exact PF.out⟩, RF⟩
          case measure => simp [intOf]; omega
        · obtain rfl : k = ns.length := by omega
          have PK2 := Aside0.mk (by have := PK.out; rwa [List.take_length] at this)
          clear PK HR
          obtain ⟨z2, hz2⟩ : ∃ z2, ns.foldl layNum z1 = z2 := ⟨_, rfl⟩
          rw [hz2] at PK2
          have HZ2 := Aside0.mk hz2
          have hgw : g + 1 < wr.heap.size := blk_lt PK2.out.box
          have hwg : w.heap.size < g := by omega
          have y4 := (blk_cell PK2.out.box 0)
          simp only [List.getElem?_toArray, List.getElem?_cons_succ, List.getElem?_cons_zero] at y4
          have y8 := (blk_cell PK2.out.hd 8).trans (by simpa using HC8.out)
          have hput := head_putB.at_ PK2.out 156 (by decide) [f8] (show 156 + 1 < 512 by decide) (by intro c hc; simp only [List.mem_cons, List.not_mem_nil, or_false] at hc; omega) hwg (by omega)
          clear hz2
          go_wp2_with (fail)
          refine hput.mono ?_
          rintro e w5 ⟨rfl, hPG⟩
          have PG := Aside0.mk hPG
          clear hput y4 y8 hPG PK2
          have y4 := (blk_cell PG.out.box 0)
          simp only [List.getElem?_toArray, List.getElem?_cons_succ, List.getElem?_cons_zero] at y4
          have hput3 := head_put3.at_ PG.out hwg (by omega)
          have kc2 := kc ((w5.alloc (.cells #[.int .u8 117, .int .u8 115, .int .u8 116, .int .u8 97, .int .u8 114] 5 (5, 6))).alloc (.cells #[.int .u8 0] 5)) #[.int .u8 48, .int .u8 48] 2 2
          rw [World.size_alloc, World.size_alloc] at kc2
          go_wp2_with (fail)
          refine hput3.mono ?_
          rintro e w6 ⟨rfl, hPG⟩
          have PG6 := Aside0.mk hPG
          clear hput3 y4 hPG PG
          obtain ⟨z4, hz4⟩ : ∃ z4, layAll (splice z2 (Int.toNat 156) [f8]) 257 [[117, 115, 116, 97, 114], [0], [48, 48]] = z4 := ⟨_, rfl⟩
          rw [hz4] at PG6
          have HZ4 := Aside0.mk hz4
          have y4 := (blk_cell PG6.out.box 0)
          simp only [List.getElem?_toArray, List.getElem?_cons_succ, List.getElem?_cons_zero] at y4
          clear hz4
          have hsum := head_sum.at_ g z4 w6.drew PG6.out.row PG6.out.len PG6.out.byte
          rw [PG6.out.len] at hsum
          go_wp2_with (fail)
          go_region_held3 (fun w' => w'.cell? ⟨g + 1, 0, none⟩ = some (.slice (some ⟨g, 0, none⟩) 512 512)) (go_keep) (first | (go_at_call 90; refine hsum.mono ?_; rintro e w7 ⟨A7, c7, rfl, hc7, hC7, hb7, hA7⟩; have PH := Aside0.mk ((PG6.out.below (below_drew (Below.refl _ _))).below hb7); have x4 := pw_cell_below hb7 y4; have hg7 : g < w7.heap.size := blk_lt PH.out.row; have hcall7 := head_put1.at_ (PH.out.below (below_alloc (Below.refl w7.heap.size w7) (.cells #[.slice A7 (signL (sumL z4 0)).length c7] 50))) 148 (by decide) w7.heap.size c7 A7 (signL (sumL z4 0)) (heap_alloc_new w7 _) hc7 (Kd.C_below hC7 (below_alloc (Below.refl w7.heap.size w7) _)) (by omega) (fun ad h => by have h5 := hA7 ad h; have h6 : g < w6.drew.heap.size := blk_lt PG6.out.row; omega) (by unfold signL; rw [List.length_append, octL_length]; decide) (signL_byte _) hwg (by omega)) | (go_at_call 87; refine hcall7.mono ?_; rintro e w8 ⟨rfl, hPG8, hT8⟩; have x4 := (blk_cell hPG8.box 0).trans rfl))
          have PG8 := Aside0.mk hPG8
          clear hPG8 hT8 hcall7 PH hc7 hC7 hb7 hA7 hsum PG6
          go_wp2_with (fail)
          go_ret2
          have hR := R_of_block (base := w.heap.size) PG8.out.row (by omega) (by rw [PG8.out.len]; decide)
          rw [PG8.out.len] at hR
          have e1 : Int.toNat 156 = 156 := rfl
          have e2 : Int.toNat 148 = 148 := rfl
          have h4 := HZ4.out
          rw [e1] at h4
          rw [HZ1.out, HZ2.out, h4]
          rw [e2] at hR
          exact ⟨_, rfl, hR, PG8.out.bel⟩
set_option maxHeartbeats 1600000 in
set_option maxRecDepth 100000 in
theorem head_Put.no (h : Hd) (w : World) (hh : hdIn h) (hok : hdOk h = false) :
    Calls Try.prog 62 #[.agg (hdCells h).toArray] w fun e w' => e = .returned (.tuple #[.slice none 0 0, .bool false]) ∧ Below w.heap.size w w' := by
  have hmay : ∀ W, Calls Try.prog 85 #[.agg (hdCells h).toArray] W fun e w' => e = .returned (.bool false) ∧ Below W.heap.size W w' := fun W => head_May.calls h.f0 h.f1 h.f2 h.f3 h.f4 h.f5 h.f6 h.f7 h.f8 h.f9 h.f10 false W (by unfold head_May.f; rw [if_pos hh, hok])
  have HMAY := Aside0.mk hmay
  have HB0 := Aside0.mk (below_alloc (Below.refl w.heap.size w) (.cells (hdCells h).toArray 71))
  obtain ⟨f0, f1, f2, f3, f4, f5, f6, f7, f8, f9, f10⟩ := h
  clear hmay hh hok
  simp only [hdCells] at HMAY HB0 ⊢
  go_enter Try.func62, Try.ntmps62
  go_wp2_with (first | (go_at_call 85; refine (HMAY.out _).mono ?_; rintro e w1 ⟨rfl, hb1⟩))
  go_ret2
  exact ⟨rfl, below_step HB0.out hb1⟩
def headPut (h : Hd) : List Int × Bool := if hdOk h = true then (hdBlk h, true) else ([], false)
def head_Put.f (a0 a1 a2 : ByteArray) (a3 a4 a5 a6 a7 a8 a9 a10 : Int) : Option (List Int × Bool) :=
  if hdIn ⟨a0, a1, a2, a3, a4, a5, a6, a7, a8, a9, a10⟩ then some (headPut ⟨a0, a1, a2, a3, a4, a5, a6, a7, a8, a9, a10⟩) else none
set_option maxRecDepth 100000 in
theorem head_Put.calls (a0_0 a0_1 a0_2 : ByteArray) (a0_3 a0_4 a0_5 a0_6 a0_7 a0_8 a0_9 a0_10 : Int) (r1 : List Int) (r2 : Bool) (w : World) (h : head_Put.f a0_0 a0_1 a0_2 a0_3 a0_4 a0_5 a0_6 a0_7 a0_8 a0_9 a0_10 = some (r1, r2)) :
    Calls Try.prog 62 #[.agg #[.string a0_0, .string a0_1, .string a0_2, .int .i64 a0_3, .int .i64 a0_4, .int .i64 a0_5, .int .i64 a0_6, .int .i64 a0_7, .int .u8 a0_8, .int .i64 a0_9, .int .i64 a0_10]] w fun e w' => ∃ v0_ : Value, e = .returned (.tuple #[v0_, .bool r2]) ∧ Kd.R (Kd.int .u8) 5 w' w.heap.size (fun _ => True) v0_ r1 ∧ Below w.heap.size w w' := by
  obtain ⟨hd, hhd⟩ : ∃ hd : Hd, hd = ⟨a0_0, a0_1, a0_2, a0_3, a0_4, a0_5, a0_6, a0_7, a0_8, a0_9, a0_10⟩ := ⟨_, rfl⟩
  have key : Calls Try.prog 62 #[.agg (hdCells hd).toArray] w fun e w' => ∃ v0_ : Value, e = .returned (.tuple #[v0_, .bool r2]) ∧ Kd.R (Kd.int .u8) 5 w' w.heap.size (fun _ => True) v0_ r1 ∧ Below w.heap.size w w' := by
    unfold head_Put.f at h
    rw [← hhd] at h
    by_cases hh : hdIn hd
    · rw [if_pos hh] at h
      have hr := Option.some.inj h
      unfold headPut at hr
      cases hok : hdOk hd with
      | true =>
        rw [if_pos hok] at hr
        obtain ⟨rfl, rfl⟩ := Prod.mk.inj hr
        exact head_Put.ok hd w hh hok
      | false =>
        rw [if_neg (by rw [hok]; decide)] at hr
        obtain ⟨rfl, rfl⟩ := Prod.mk.inj hr
        refine (head_Put.no hd w hh hok).mono ?_
        rintro e w' ⟨rfl, hb⟩
        exact ⟨_, rfl, Kd.R_nil _ _ _ _ _, hb⟩
    · rw [if_neg hh] at h
      cases h
  rw [hhd] at key
  exact key

end Go.Proofs.Ytddjnicmpgbcgaa.X
