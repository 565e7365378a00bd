import Derived.ArgAppend
import Derived.ChangeArms
import Derived.DataReads
import Derived.Deep.Slices
import Derived.Laws.CopyOwn
import Derived.Lib.Bytealg
import Derived.Lib.IndexBytes
import Derived.Lib.IndexLaws
import Derived.Lib.Strings
import Derived.LoopIn
import Derived.LoopNIn
import Derived.MapKept
import Derived.Maps.OwnIn
import Derived.OwnWalkIn
import Derived.RangeFuncBound
import Derived.RangeFuncCalls
import Derived.RangeFuncLeaves
import Derived.RangeFuncRecord
import Derived.RangeFuncSeq
import Derived.Shelf.Abstract
import Derived.Shelf.RegionOpen
import Derived.TacticsInMore
import Derived.Test.YtpedagpcblnnhaaGreatWWords
import Derived.WalkKit
import GoSem.Op.String
namespace Go.Proofs.YtpedagpcblnnhaaGreatY
theorem less_trans : ∀ {a b c : List UInt8}, Op.bytesLess a b = true → Op.bytesLess b c = true → Op.bytesLess a c = true
  | _, _, [], _, h => by simp [Op.bytesLess] at h
  | _, [], _ :: _, h, _ => by simp [Op.bytesLess] at h
  | [], _ :: _, _ :: _, _, _ => rfl
  | a :: x, b :: y, c :: z, h, k => by
    simp only [Op.bytesLess, Bool.or_eq_true, decide_eq_true_eq, Bool.and_eq_true, beq_iff_eq] at h k ⊢
    rcases h with h | ⟨rfl, h⟩
    · rcases k with k | ⟨rfl, k⟩
      · exact .inl (UInt8.lt_trans h k)
      · exact .inl h
    · rcases k with k | ⟨rfl, k⟩
      · exact .inl k
      · exact .inr ⟨rfl, less_trans h k⟩
theorem less_total : ∀ {a b : List UInt8}, Op.bytesLess a b = false → a ≠ b → Op.bytesLess b a = true
  | [], [], _, h => absurd rfl h
  | [], _ :: _, h, _ => by simp [Op.bytesLess] at h
  | _ :: _, [], _, _ => rfl
  | a :: x, b :: y, h, k => by
    simp only [Op.bytesLess, Bool.or_eq_false_iff, decide_eq_false_iff_not, Bool.and_eq_false_iff, beq_eq_false_iff_ne, UInt8.not_lt] at h
    simp only [Op.bytesLess, Bool.or_eq_true, decide_eq_true_eq, Bool.and_eq_true, beq_iff_eq]
    by_cases e : a = b
    · subst e
      rcases h.2 with h2 | h2
      · exact absurd rfl h2
      · exact .inr ⟨rfl, less_total h2 (fun q => k (by rw [q]))⟩
    · exact .inl (UInt8.lt_of_le_of_ne h.1 (fun q => e q.symm))
end Go.Proofs.YtpedagpcblnnhaaGreatY
namespace Go.Proofs.YtpedagpcblnnhaaGreatY
open Go.RowKit Go.Proofs.YtpedagpcblnnhaaGreatW.PrintWords
theorem C_of_cells {w : World} {g : Nat} {l : List Int} (hl : l.length ≤ 9223372036854775807) (h : ∀ j u, (nums .u8 l)[j]? = some u → w.cell? ⟨g, j, none⟩ = some u) : (Kd.int .u8).C w (some ⟨g, 0, none⟩) l.length l := by
  refine Kd.C_of_reads (enc := Value.int .u8) (d := (0 : Int)) (h1 := fun _ => rfl) ⟨rfl, hl, fun _ => ⟨_, rfl, fun j hj => ?_⟩⟩
  rw [add_plain]
  refine h j _ ?_
  unfold nums
  rw [List.getElem?_map, List.getElem?_eq_getElem hj]
  simp [List.getD_eq_getElem?_getD, List.getElem?_eq_getElem hj]
theorem bytes_cell {W : World} {e : TypeId} {s : ByteArray} {j : Nat} {u : Value} (h : (nums .u8 (bytesOf s))[j]? = some u) : (Lib.bytesWorld W e s).cell? ⟨W.heap.size, j, none⟩ = some u := by
  obtain ⟨hj, hv⟩ := List.getElem?_eq_some_iff.1 h
  have hj2 : j < s.size := by rw [nums_length, bytesOf_length] at hj; exact hj
  rw [Lib.bytesWorld_cell W e s j hj2, ← hv]
  have h' : j < s.data.toList.length := by rw [data_length]; exact hj2
  simp [nums, bytesOf, List.getD_eq_getElem?_getD, List.getElem?_eq_getElem h']
section
variable {P : Program} {ops : Array Oper} {rest : List Oper} {o : Oper} {a : Act} {Q : Exit → Act → World → Prop}
theorem wpList_append_bytes (W : World) (hgd : o.guard = none) (s x : Operand) (t e : TypeId) (hop : o.op = Op.call { callee := Callee.builtin Builtin.append, args := #[s, x], argTypes := #[t, t] })
    (ht : P.underlying t = some (.slice e)) (hinfo : (P.info? e).map (fun i => (i.zero, i.size, i.bytes)) = some (some (.int .u8 0), 1, 1)) (txt : ByteArray) (news : List Int) (h0 : 0 < news.length)
    (hs : a.eval s = .slice (some ⟨W.heap.size, 0, none⟩) txt.size (grownCap W txt.size 0 e)) (hx : a.eval x = .slice (some ⟨(Lib.bytesWorld W e txt).heap.size, 0, none⟩) news.length news.length)
    (hsz : txt.size + news.length ≤ 140737488355328)
    (h : ∀ g c w', W.heap.size ≤ g → (bytesOf txt ++ news).length ≤ c → (Kd.int .u8).C w' (some ⟨g, 0, none⟩) (bytesOf txt ++ news).length (bytesOf txt ++ news) → Below W.heap.size W w' → wpList P ops Q rest (a.put o.dst (.slice (some ⟨g, 0, none⟩) (txt.size + news.length) c)) w') :
    wpList P ops Q (o :: rest) a ((Lib.bytesWorld W e txt).alloc (.cells (nums .u8 news).toArray e)) := by
  obtain ⟨i0, hi, hz0, hz1, hz2⟩ := info_parts hinfo
  have hll : (bytesOf txt ++ news).length = txt.size + news.length := by rw [List.length_append, bytesOf_length]
  have hbs := Lib.bytesWorld_size W e txt
  have hB : Below W.heap.size W ((Lib.bytesWorld W e txt).alloc (.cells (nums .u8 news).toArray e)) := (bytes_below (Below.refl _ _) (Nat.le_refl _) e txt).alloc (by omega) _
  have hold : ∀ j u, (nums .u8 (bytesOf txt))[j]? = some u → ((Lib.bytesWorld W e txt).alloc (.cells (nums .u8 news).toArray e)).cell? ⟨W.heap.size, j, none⟩ = some u := by
    intro j u hj
    rw [← bytes_cell (W := W) (e := e) hj]
    unfold World.cell?
    simp only
    rw [Below.heap_alloc _ _ _ (by omega)]
  have hblk := Lib.bytesWorld_at_new W e txt
  have hblk2 : ((Lib.bytesWorld W e txt).alloc (.cells (nums .u8 news).toArray e)).heap[W.heap.size]? = some (.cells (Lib.bytesCells W e txt) e ((Lib.bytesCells W e txt).size, (Lib.bytesCells W e txt).size + 1)) := (Below.heap_alloc _ _ _ (by omega)).trans hblk
  have hcs : txt.size ≤ grownCap W txt.size 0 e → (Lib.bytesCells W e txt).size = grownCap W txt.size 0 e := by
    intro hle
    unfold Lib.bytesCells
    rw [Array.size_append, Array.size_map, Array.size_replicate]
    show txt.size + _ = _
    omega
  refine wpList_append_arg _ hgd s x t hop e i0 (.int .u8 0) 1 1 ht hi hz0 hz1 hz2 rfl (by decide) W.heap.size 0 txt.size (grownCap W txt.size 0 e) (nums .u8 (bytesOf txt)) hs (by rw [nums_length, bytesOf_length, Nat.mul_one])
    (fun j u hj => by rw [Nat.zero_add]; exact hold j u hj) ⟨(Lib.bytesWorld W e txt).heap.size, 0, none⟩ news.length news.length (nums .u8 news) hx (by rw [nums_length, Nat.mul_one]) (fun j u hj => ?hc)
    (fun u hu => by unfold nums at hu; obtain ⟨_, _, rfl⟩ := List.mem_map.1 hu; rfl) (fun hr j hj => ?hsp) (by simp only [maxLen]; omega) (by omega) (fun hr => ?room) (fun hg v' w' hown hgr => ?grow)
  case hc =>
    rw [add_plain]
    have := blk_cell (heap_alloc_new (Lib.bytesWorld W e txt) (.cells (nums .u8 news).toArray e)) j
    rw [this, List.getElem?_toArray]
    exact hj
  case hsp =>
    rw [nums_length] at hj
    have hc1 := hcs (by omega)
    refine ⟨?_, ?_⟩
    · unfold World.cell?
      simp only
      rw [hblk2]
      simp only [Nat.zero_add, Nat.mul_one]
      rw [Array.getElem?_eq_getElem (by omega)]
      rfl
    · unfold World.frozen?
      simp only
      rw [hblk2]
      simp only [Nat.zero_add, Nat.mul_one, Bool.and_eq_false_iff, decide_eq_false_iff_not]
      exact .inl (by omega)
  case room =>
    have hc1 := hcs (by omega)
    have hone : ∀ v ∈ nums .u8 news, v.oneCell' = true := fun u hu => by unfold nums at hu; obtain ⟨_, _, rfl⟩ := List.mem_map.1 hu; rfl
    refine h W.heap.size _ _ (Nat.le_refl _) (by rw [hll]; exact hr) ?_ ?_
    · refine C_of_cells (by rw [hll]; omega) ?_
      intro j u hj
      rw [nums_append] at hj
      rw [Nat.zero_add, Nat.mul_one]
      by_cases hjt : j < txt.size
      · rw [List.getElem?_append_left (by rw [nums_length, bytesOf_length]; exact hjt)] at hj
        rw [World.cell?_setCells_out _ _ _ _ _ (fun _ _ => .inl hjt)]
        exact hold j u hj
      · rw [List.getElem?_append_right (by rw [nums_length, bytesOf_length]; omega), nums_length, bytesOf_length] at hj
        obtain ⟨hjl, hv⟩ := List.getElem?_eq_some_iff.1 hj
        have := World.cell?_setCells_in W.heap.size (nums .u8 news) txt.size ((Lib.bytesWorld W e txt).alloc (.cells (nums .u8 news).toArray e)) (fun i hi => by
          rw [nums_length] at hi
          unfold World.cell?
          simp only
          rw [hblk2]
          simp only
          rw [Array.getElem?_eq_getElem (by omega)]
          rfl) (j - txt.size) hjl
        rw [hv] at this
        rw [show txt.size + (j - txt.size) = j by omega] at this
        exact this
    · obtain ⟨h1, h2, h3, h4⟩ := setCells_same W.heap.size (nums .u8 news) (0 + txt.size * 1) ((Lib.bytesWorld W e txt).alloc (.cells (nums .u8 news).toArray e))
      exact hB.trans ⟨h1, h2, h3, by rw [h4]; exact Nat.le_refl _, fun k hk => setCells_far (nums .u8 news) _ k (by omega)⟩
  case grow =>
    rw [← nums_append] at hown
    obtain ⟨A, c, hv, hle, hr⟩ := own_reads_of_le (enc := Value.int .u8) (d := (0 : Int)) (xs := bytesOf txt ++ news) hown
    obtain ⟨g, cap, hform, hg2, _⟩ := hown.form (by omega)
    rw [hv] at hform
    injection hform with e1 e2 e3
    subst e1 hv
    refine h g c w' ?_ (by rw [hll]; exact hle) (by rw [hll]; exact Kd.C_of_reads (h1 := fun _ => rfl) hr) ?_
    · rw [World.size_alloc] at hg2; omega
    · exact hB.grown hgr (by rw [World.size_alloc]; omega) (fun k e => by cases e)
end
end Go.Proofs.YtpedagpcblnnhaaGreatY
namespace Go.Proofs.YtpedagpcblnnhaaGreatY
open Go.RowKit
structure Turn (S : Nat → Prop) (A A' : World) : Prop where
  os : A'.os = A.os
  tape : A'.tape = A.tape
  output : A'.output = A.output
  size : A.heap.size ≤ A'.heap.size
  block : ∀ k, k < A.heap.size → ¬ S k → A'.heap[k]? = A.heap[k]?
theorem Turn.refl (S : Nat → Prop) (A : World) : Turn S A A := ⟨rfl, rfl, rfl, Nat.le_refl _, fun _ _ _ => rfl⟩
theorem Turn.trans {S : Nat → Prop} {A B C : World} (h : Turn S A B) (k : Turn S B C) : Turn S A C :=
  ⟨k.os.trans h.os, k.tape.trans h.tape, k.output.trans h.output, Nat.le_trans h.size k.size, fun i hi hs => (k.block i (Nat.lt_of_lt_of_le hi h.size) hs).trans (h.block i hi hs)⟩
theorem Turn.mono {S S' : Nat → Prop} {A B : World} (h : Turn S A B) (hs : ∀ k, S k → S' k) : Turn S' A B :=
  ⟨h.os, h.tape, h.output, h.size, fun i hi hn => h.block i hi (fun e => hn (hs i e))⟩
theorem Turn.alloc {S : Nat → Prop} (A : World) (o : Obj) : Turn S A (A.alloc o) :=
  ⟨rfl, rfl, rfl, by simp, fun k hk _ => Below.heap_alloc A o k hk⟩
theorem Turn.drew {S : Nat → Prop} (A : World) : Turn S A A.drew := ⟨rfl, rfl, rfl, Nat.le_refl _, fun _ _ _ => rfl⟩
theorem Turn.drewN {S : Nat → Prop} (A : World) (n : Nat) : Turn S A (A.drewN n) := ⟨rfl, rfl, rfl, Nat.le_refl _, fun _ _ _ => rfl⟩
theorem Turn.putObj {S : Nat → Prop} (A : World) {r : Nat} (o : Obj) (hr : S r) : Turn S A (A.putObj r o) :=
  ⟨rfl, rfl, rfl, by simp, fun k _ hn => World.putObj_heap_other (fun e => hn (e ▸ hr))⟩
theorem Turn.setCell {S : Nat → Prop} (A : World) {p : Addr} (v : Value) (hp : S p.block) : Turn S A (A.setCell p v) :=
  ⟨rfl, rfl, rfl, by simp [World.setCell], fun k _ hn => Below.heap_setCell A p v k (fun e => hn (e ▸ hp))⟩
theorem Turn.of_below {S : Nat → Prop} {A A' : World} (h : Below A.heap.size A A') : Turn S A A' :=
  ⟨h.os, h.tape, h.output, h.size, fun k hk _ => h.block k hk⟩
theorem Turn.below {S : Nat → Prop} {A A' : World} {B : Nat} (h : Turn S A A') (hs : ∀ k, S k → B ≤ k) (hB : B ≤ A.heap.size) : Below B A A' :=
  ⟨h.os, h.tape, h.output, h.size, fun k hk => h.block k (by omega) (fun e => by have := hs k e; omega)⟩
def HandsOn {α : Type} (F : Fence) (n : Nat) (P : Program) (gf : Nat) (lb : Array Value) (encs : α → Array Value) (xs : List α) (S : Nat → Prop) (w : World) : Prop :=
  ∀ (l : Nat) (J : List α → World → Prop) (Jx : World → Prop) (W : World), Turn (fun _ => False) w W →
    (∀ pre A A', J pre A → Turn S A A' → J pre A') → (∀ A A', Jx A → Turn S A A' → Jx A') →
    (∀ pre x post W1, xs = pre ++ x :: post → J pre W1 → YieldAt F (n - 1) P l (encs x) W1 fun e W' =>
      (e = .returned (.bool true) ∧ J (pre ++ [x]) W' ∧ W1.heap.size ≤ W'.heap.size ∧ ∀ k, S k → W'.heap[k]? = W1.heap[k]?) ∨ (e = .returned (.bool false) ∧ Jx W')) →
    J [] W →
    CallsIn F n P gf (#[.func (.yield l) #[] #[]] ++ lb) W fun e W' => (∃ v, e = .returned v) ∧ (J xs W' ∨ Jx W')
structure Stay (S : Nat → Prop) (n0 : Nat) (W W' : World) : Prop where
  size : W.heap.size ≤ W'.heap.size
  own : ∀ k, (S k ∨ k = n0 ∨ k = n0 + 1) → W'.heap[k]? = W.heap[k]?
def bodyEnds {α : Type} (S : Nat → Prop) (n0 : Nat) (I : List α → World → Prop) (Ix : Code → World → Prop) (xs : List α) (W : World) : Exit → Act → World → Prop
  | .normal, _, W' => Stay S n0 W W' ∧ I xs W'
  | .ret, _, W' => Stay S n0 W W' ∧ Ix .ret W'
  | .exit id, _, W' => Stay S n0 W W' ∧ Ix (.exit id) W'
  | .goto t, _, W' => Stay S n0 W W' ∧ Ix (.goto t) W'
  | .panic _, _, _ => False
  | .outgrown, _, _ => False
variable {F : Fence} {n : Nat} {P : Program}
theorem range_list {α : Type} {g : Operand} {ps : Array Tmp} {assign body : Code} {Q : Exit → Act → World → Prop} {a : Act} {w : World}
    (hro : F.round = none) (h1 : 1 ≤ n) {gf : Nat} {lb : Array Value} (hg : a.eval g = .func (.func gf) #[] lb) (hFg : F.fn gf) (eg : ∀ args w, (callFunc gf args).run P w = .ok (.enter gf args) w)
    {encs : α → Array Value} {xs : List α} {S : Nat → Prop} (hS : ∀ k, S k → k < w.heap.size) (hit : HandsOn F (n - 1) P gf lb encs xs S w)
    (hps : ∀ x, (encs x).size = ps.size)
    (I : List α → World → Prop) (Ix : Code → World → Prop)
    (hI : ∀ pre A A', I pre A → Turn (fun k => S k ∨ k = w.heap.size ∨ k = w.heap.size + 1) A A' → I pre A')
    (hIx : ∀ c A A', Ix c A → Turn (fun k => S k ∨ k = w.heap.size ∨ k = w.heap.size + 1) A A' → Ix c A')
    (h0 : I [] w) (a₁ : α → Act)
    (hassign : ∀ (l : Nat) (x : α) (W : World) (K : Act → World → Prop), K (a₁ x) W →
      assign.wpIn (F.inRound l) (n - 1 - 1) P (Exit.then K (fun _ _ _ => False)) { tmps := (ps.zip (encs x)).foldl (fun t (p, v) => t.setIfInBounds p v) a.tmps, defers := [] } W)
    (hbody : ∀ (l : Nat) (pre : List α) (x : α) (post : List α) (W : World), xs = pre ++ x :: post → I pre W → w.heap.size + 2 ≤ W.heap.size →
      body.wpIn (F.inRound l) (n - 1 - 1) P (bodyEnds S w.heap.size I Ix (pre ++ [x]) W) (a₁ x) W)
    (hdone : ∀ (W : World), I xs W → W.heap[w.heap.size]? = some (.deferred (some [])) → Q .normal { a with defers := { target := .collected w.heap.size, args := #[] } :: a.defers } W)
    (hstop : ∀ (c : Code) (W : World), Ix c W → W.heap[w.heap.size]? = some (.deferred (some [])) → c.wpIn F n P Q { a with defers := { target := .collected w.heap.size, args := #[] } :: a.defers } W) :
    (Code.rangeFunc g ps assign body).wpIn F n P Q a w := by
  refine wpIn_rangeFunc ?_
  intro fn hfn
  rw [hro]
  generalize hn0 : w.heap.size = n0 at *
  let rec' : LoopState → Option Code → Loop := fun st pe => { state := st, pending := pe, fn, tmps := a.tmps, params := ps, assign, body, defers := n0 }
  obtain ⟨rec, hrec⟩ : ∃ rec, rec = rec' := ⟨_, rfl⟩
  obtain ⟨W1, hW1⟩ : ∃ W1, (w.alloc (.deferred (some []))).alloc (.loop (rec .ready none)) = W1 := ⟨_, rfl⟩
  have hs1 : W1.heap.size = n0 + 2 := by rw [← hW1]; simp [hn0]
  have hL1 : W1.heap[n0 + 1]? = some (.loop (rec .ready none)) := by
    rw [← hW1, ← hn0]; have := World.alloc_heap_new (w.alloc (.deferred (some []))) (.loop (rec .ready none)); rwa [World.size_alloc] at this
  have hK1 : W1.heap[n0]? = some (.deferred (some [])) := by
    rw [← hW1, ← hn0]; exact (Below.heap_alloc _ _ _ (by simp)).trans (World.alloc_heap_new w _)
  have hT1 : ∀ S', Turn S' w W1 := fun S' => by rw [← hW1]; exact (Turn.alloc _ _).trans (Turn.alloc _ _)
  have hI1 : I [] W1 := hI _ _ _ h0 (hT1 _)
  refine ⟨n0 + 1, [{ target := .collected n0, args := #[] }], W1, { target := .fn (.func gf) lb, args := #[.func (.yield (n0 + 1)) #[] #[]] }, W1, gf,
    #[.func (.yield (n0 + 1)) #[] #[]] ++ lb, W1, ?_, ?_, ?_, ?_, fun _ => h1, ?_⟩
  · have := run_enterLoop_outer (P := P) (w := w) fn a.tmps ps assign body
    rw [this, hn0, ← hW1, hrec]
  · simp only [resolve, hg]
    simp [go_sem]
  · intro f' hf'; simp [Target.leads] at hf'; subst hf'; exact hFg
  · simp [invoke, go_sem, eg]
  · have hSn : ∀ k, S k → k ≠ n0 ∧ k ≠ n0 + 1 := fun k hk => by have := hS k hk; omega
    refine (hit (n0 + 1)
      (fun pre W => I pre W ∧ n0 + 2 ≤ W.heap.size ∧ W.heap[n0 + 1]? = some (.loop (rec .ready none)) ∧ W.heap[n0]? = some (.deferred (some [])))
      (fun W => ∃ c, Ix c W ∧ n0 + 2 ≤ W.heap.size ∧ W.heap[n0 + 1]? = some (.loop (rec .done (some c))) ∧ W.heap[n0]? = some (.deferred (some [])))
      W1 (hT1 _) ?_ ?_ ?_ ⟨hI1, by omega, hL1, hK1⟩).mono ?_
    · rintro pre A A' ⟨hi, hz, hl, hk⟩ ht
      exact ⟨hI _ _ _ hi (ht.mono fun _ h => .inl h), Nat.le_trans hz ht.size, (ht.block _ (by omega) (fun e => (hSn _ e).2 rfl)).trans hl, (ht.block _ (by omega) (fun e => (hSn _ e).1 rfl)).trans hk⟩
    · rintro A A' ⟨c, hi, hz, hl, hk⟩ ht
      exact ⟨c, hIx _ _ _ hi (ht.mono fun _ h => .inl h), Nat.le_trans hz ht.size, (ht.block _ (by omega) (fun e => (hSn _ e).2 rfl)).trans hl, (ht.block _ (by omega) (fun e => (hSn _ e).1 rfl)).trans hk⟩
    · rintro pre x post W hx ⟨hi, hz, hl, hk⟩
      have hy := run_yield (P := P) (args := encs x) hl (by rw [hrec]; exact hps x)
      rw [hrec] at hy
      refine ⟨fn, _, assign, body, hy, roundIn_of_wpIn hfn (hassign _ x W _ ⟨_, run_beginRound hl (by rw [hrec]), ?_⟩)⟩
      have hb : Turn (fun k => S k ∨ k = n0 ∨ k = n0 + 1) W (W.putObj (n0 + 1) (.loop { rec .ready none with state := .busy })) := Turn.putObj _ _ (.inr (.inr rfl))
      have hl2 : (W.putObj (n0 + 1) (.loop { rec .ready none with state := .busy })).heap[n0 + 1]? = some (.loop { rec .ready none with state := .busy }) := World.putObj_heap_same (by omega)
      have hk2 : (W.putObj (n0 + 1) (.loop { rec .ready none with state := .busy })).heap[n0]? = some (.deferred (some [])) := (World.putObj_heap_other (by omega)).trans hk
      refine wpIn_mono (hbody _ pre x post _ hx (hI _ _ _ hi hb) (by simpa using hz)) ?_
      have fin : ∀ (jump : Option Code) (W3 : World), Stay S n0 (W.putObj (n0 + 1) (.loop { rec .ready none with state := .busy })) W3 →
          (Instr.endRound (n0 + 1) jump).run P W3 = .ok (.bool jump.isNone) (W3.putObj (n0 + 1) (.loop (rec (if jump.isNone then .ready else .done) jump))) ∧
          Turn (fun k => S k ∨ k = n0 ∨ k = n0 + 1) W3 (W3.putObj (n0 + 1) (.loop (rec (if jump.isNone then .ready else .done) jump))) ∧
          n0 + 2 ≤ (W3.putObj (n0 + 1) (.loop (rec (if jump.isNone then .ready else .done) jump))).heap.size ∧
          (W3.putObj (n0 + 1) (.loop (rec (if jump.isNone then .ready else .done) jump))).heap[n0 + 1]? = some (.loop (rec (if jump.isNone then .ready else .done) jump)) ∧
          (W3.putObj (n0 + 1) (.loop (rec (if jump.isNone then .ready else .done) jump))).heap[n0]? = some (.deferred (some [])) := fun jump W3 hst => by
        have hl3 := (hst.own _ (.inr (.inr rfl))).trans hl2
        have hz3 : n0 + 2 ≤ W3.heap.size := Nat.le_trans hz (by simpa using hst.size)
        have := run_endRound (P := P) jump hl3
        rw [hrec] at this ⊢
        exact ⟨this, Turn.putObj _ _ (.inr (.inr rfl)), by simpa using hz3, World.putObj_heap_same (by omega), (World.putObj_heap_other (by omega)).trans ((hst.own _ (.inr (.inl rfl))).trans hk2)⟩
      rintro e a3 W3 hp
      cases e with
      | normal =>
        obtain ⟨hst, hi3⟩ := hp
        obtain ⟨hr, ht, hz4, hl4, hk4⟩ := fin none W3 hst
        refine ⟨_, _, hr, .inl ⟨rfl, ⟨hI _ _ _ hi3 ht, hz4, hl4, hk4⟩, ?_, fun k hk => ?_⟩⟩
        · simpa using hst.size
        · have := hSn k hk
          exact (World.putObj_heap_other (by omega)).trans ((hst.own k (.inl hk)).trans (World.putObj_heap_other (by omega)))
      | ret =>
        obtain ⟨hst, hi3⟩ := hp
        obtain ⟨hr, ht, hz4, hl4, hk4⟩ := fin (some .ret) W3 hst
        exact ⟨_, _, hr, .inr ⟨rfl, .ret, hIx _ _ _ hi3 ht, hz4, hl4, hk4⟩⟩
      | exit id =>
        obtain ⟨hst, hi3⟩ := hp
        obtain ⟨hr, ht, hz4, hl4, hk4⟩ := fin (some (.exit id)) W3 hst
        exact ⟨_, _, hr, .inr ⟨rfl, .exit id, hIx _ _ _ hi3 ht, hz4, hl4, hk4⟩⟩
      | goto t =>
        obtain ⟨hst, hi3⟩ := hp
        obtain ⟨hr, ht, hz4, hl4, hk4⟩ := fin (some (.goto t)) W3 hst
        exact ⟨_, _, hr, .inr ⟨rfl, .goto t, hIx _ _ _ hi3 ht, hz4, hl4, hk4⟩⟩
      | panic ch => exact hp.elim
      | outgrown => exact hp.elim
    · have hfinal : ∀ W2 : World, n0 + 2 ≤ W2.heap.size → Turn (fun k => S k ∨ k = n0 ∨ k = n0 + 1) W2 (W2.putObj (n0 + 1) (.loop { rec' .ready none with state := .exhausted })) := fun W2 _ => Turn.putObj _ _ (.inr (.inr rfl))
      rintro e W2 ⟨⟨v, rfl⟩, (⟨hi, hz, hl, hk⟩ | ⟨c, hi, hz, hl, hk⟩)⟩
      · refine ⟨none, _, by have := run_endLoop (P := P) hl (by rw [hrec]; simp [rec']); rw [hrec] at this; exact this, hdone _ (hI _ _ _ hi (Turn.putObj _ _ (.inr (.inr rfl)))) ((World.putObj_heap_other (by omega)).trans hk)⟩
      · refine ⟨some c, _, by have := run_endLoop (P := P) hl (by rw [hrec]; simp [rec']); rw [hrec] at this; exact this, hstop _ _ (hIx _ _ _ hi (Turn.putObj _ _ (.inr (.inr rfl)))) ((World.putObj_heap_other (by omega)).trans hk)⟩
end Go.Proofs.YtpedagpcblnnhaaGreatY
namespace Go.Proofs.YtpedagpcblnnhaaGreatY
open Go.RowKit Go.Proofs.YtpedagpcblnnhaaGreatW.PrintWords
theorem Turn.keep {g : Nat} {A B : World} (h : Turn (fun k => k = g) A B) : KeepBut A B g none := ⟨h.size, fun i hi hn _ => h.block i hi hn⟩
theorem Turn.setRow {S : Nat → Prop} (A : World) {g : Nat} (cs : Array Value) (hg : S g) : Turn S A (A.setRow g cs) :=
  ⟨rfl, rfl, rfl, by simp [World.setRow], fun k _ hn => setRow_other A g k cs (fun e => hn (e ▸ hg))⟩
section
variable {P : Program} {ops : Array Oper} {rest : List Oper} {o : Oper} {a : Act} {Q : Exit → Act → World → Prop} {w : World}
theorem wpList_copy_turn (hgd : o.guard = none) (d s : Operand) (dT sT : TypeId)
    (ho : o.op = .call { callee := .builtin .copy, args := #[d, s], argTypes := #[dT, sT] }) (elem : TypeId) (hu : P.underlying dT = some (.slice elem)) (hsz : (P.info? elem).map (·.size) = some 1)
    (dp sp : Option Addr) (dLen dCap sLen sCap : Nat) (hd : a.eval d = .slice dp dLen dCap) (hs : a.eval s = .slice sp sLen sCap)
    (g off : Nat) (cur : List Value) (t : TypeId) (hg : w.heap[g]? = some (.cells cur.toArray t (0, 0))) (cs : List Value) (hn : cs.length = Nat.min sLen dLen)
    (hpos : 0 < cs.length → dp = some ⟨g, off, none⟩ ∧ ∃ ad, sp = some ad ∧ ∀ j v, cs[j]? = some v → w.cell? (ad.add j) = some v)
    (hfit : off + cs.length ≤ cur.length) (h1 : ∀ v ∈ cs, v.oneCell' = true)
    (h : ∀ w', w'.heap[g]? = some (.cells (splice cur off cs).toArray t (0, 0)) → Turn (fun k => k = g) w w' → wpList P ops Q rest (a.put o.dst (goInt cs.length)) w') :
    wpList P ops Q (o :: rest) a w := by
  by_cases h0 : cs.length = 0
  · obtain rfl : cs = [] := List.eq_nil_of_length_eq_zero h0
    refine wpList_copy_nothing hgd d s dT sT ho elem hu hsz dp sp dLen dCap sLen sCap hd hs (by simpa using hn.symm) ?_
    exact h w (by simpa [splice] using hg) (Turn.refl _ _)
  · obtain ⟨rfl, ad, rfl, hsrc⟩ := hpos (by omega)
    refine wpList_copy_own hgd d s dT sT ho elem hu hsz g off dLen dCap ad sLen sCap hd hs cur.toArray t hg cs hn hsrc (by simpa using hfit) h1 ?_
    exact h _ (by simpa [splice] using setRow_heap w g _ _ t _ hg) (Turn.setRow _ _ rfl)
end
theorem splice_nums (l : List Int) (at_ : Nat) (x : List Int) : splice (nums .u8 l) at_ (nums .u8 x) = nums .u8 (splice l at_ x) := by
  unfold splice nums
  simp only [List.map_append, List.map_take, List.map_drop, List.length_map]
def layAll (l : List Int) (at_ : Nat) : List (List Int) → List Int
  | [] => l
  | x :: r => layAll (splice l at_ x) (at_ + x.length) r
def posAll (at_ : Nat) (r : List (List Int)) : Nat := at_ + (r.map List.length).sum
theorem layAll_snoc : ∀ (r : List (List Int)) (l : List Int) (at_ : Nat) (x : List Int), layAll l at_ (r ++ [x]) = splice (layAll l at_ r) (posAll at_ r) x
  | [], l, at_, x => by simp [layAll, posAll]
  | y :: r, l, at_, x => by
    rw [List.cons_append, layAll, layAll_snoc r, layAll]
    unfold posAll
    simp only [List.map_cons, List.sum_cons, Nat.add_assoc]
theorem posAll_snoc (at_ : Nat) (r : List (List Int)) (x : List Int) : posAll at_ (r ++ [x]) = posAll at_ r + x.length := by
  unfold posAll
  simp only [List.map_append, List.sum_append, List.map_cons, List.map_nil, List.sum_cons, List.sum_nil]
  omega
theorem layAll_length : ∀ (r : List (List Int)) (l : List Int) (at_ : Nat), posAll at_ r ≤ l.length → (layAll l at_ r).length = l.length
  | [], _, _, _ => rfl
  | x :: r, l, at_, h => by
    unfold posAll at h
    simp only [List.map_cons, List.sum_cons] at h
    have h1 := length_splice l at_ x (by omega)
    rw [layAll, layAll_length r _ _ (by unfold posAll; omega), h1]
theorem posAll_take (at_ : Nat) (r : List (List Int)) (k : Nat) : posAll at_ (r.take k) ≤ posAll at_ r := by
  have h : posAll at_ r = posAll at_ (r.take k) + ((r.drop k).map List.length).sum := by
    have := congrArg (fun z => (List.map List.length z).sum) (List.take_append_drop k r)
    simp only [List.map_append, List.sum_append] at this
    unfold posAll
    omega
  omega
end Go.Proofs.YtpedagpcblnnhaaGreatY
namespace Go.Proofs.YtpedagpcblnnhaaGreatY
open Go.RowKit
theorem putObj_alloc (w : World) (o o' : Obj) : (w.alloc o).putObj w.heap.size o' = w.alloc o' := by
  have : (w.heap.push o).setIfInBounds w.heap.size o' = w.heap.push o' := by
    apply Array.ext_getElem?
    intro i
    rw [Array.getElem?_setIfInBounds]
    simp only [Array.getElem?_push, Array.size_push]
    by_cases h : i = w.heap.size
    · subst h; simp
    · have h2 : w.heap.size ≠ i := fun e => h e.symm
      simp [h, h2]
  unfold World.putObj World.alloc
  simp only [this]
section
variable {P : Program} {T K E : TypeId} {d : TypeDesc} {w : World} {b : Nat} {es : Array MapEntry} {clock : Nat} {k v : Value}
theorem run_mapUpdate_new (hT : P.underlying T = some (.map K E)) (hK : P.underlying K = some d) (hk : MapKept.IsKey d k) (hb : w.heap[b]? = some (.map es clock)) (hn : Instr.findNow d k es.toList 0 = some none) :
    (Instr.mapUpdate T (.map (some b)) k v).run P w = .ok () (w.putObj b (.map (es.push { key := k, val := v, born := clock }) (clock + 1))) := by
  have hc := MapKept.run_checkKey (w := w) hK hk false 9999
  simp only [Nat.reduceAdd] at hc
  have hf := MapKept.run_findKey (w := w) hK hn
  have hs := fun o => MapKept.run_setObj_map (P := P) o hb
  simp only [Instr.mapUpdate, Sem.run_bind, run_underlying hT, Result.andThen, MapKept.run_getObj_map hb, hc, hf, hs, World.putObj]
theorem run_lookup_found (c : Bool) (hT : P.underlying T = some (.map K E)) (hK : P.underlying K = some d) (hk : MapKept.IsKey d k) (hb : w.heap[b]? = some (.map es clock)) {i : Nat} (hn : Instr.findNow d k es.toList 0 = some (some (i, v))) :
    (Instr.lookup T (.map (some b)) k c).run P w = .ok (if c then .tuple #[v, .bool true] else v) w := by
  have hc := MapKept.run_checkKey (w := w) hK hk es.isEmpty 9999
  simp only [Nat.reduceAdd] at hc
  have hf := MapKept.run_findKey (w := w) hK hn
  simp only [Instr.lookup, Sem.run_bind, run_underlying hT, Result.andThen, MapKept.run_getObj_map hb, hc, hf, Sem.run_pure]
theorem run_lookup_lacks (c : Bool) (hT : P.underlying T = some (.map K E)) (hK : P.underlying K = some d) (hk : MapKept.IsKey d k) (hb : w.heap[b]? = some (.map es clock)) (hn : Instr.findNow d k es.toList 0 = some none) (hz : (zeroValue E).run P w = .ok v w) :
    (Instr.lookup T (.map (some b)) k c).run P w = .ok (if c then .tuple #[v, .bool false] else v) w := by
  have hc := MapKept.run_checkKey (w := w) hK hk es.isEmpty 9999
  simp only [Nat.reduceAdd] at hc
  have hf := MapKept.run_findKey (w := w) hK hn
  simp only [Instr.lookup, Sem.run_bind, run_underlying hT, Result.andThen, MapKept.run_getObj_map hb, hc, hf, Sem.run_pure, hz]
end
end Go.Proofs.YtpedagpcblnnhaaGreatY
namespace Go.Proofs.YtpedagpcblnnhaaGreatY
open Go.RowKit Go.Proofs.YtpedagpcblnnhaaGreatW.PrintWords
def Opens (P : Program) (t : TypeId) {α : Type} (kd : Kd α) : Prop :=
  ∀ (H : Type) (enc : TypeId × Value → H) (w : World) (base : Nat) (sp : Nat → Bool) (held : Bool) (fuel : Nat) (cs : List Value) (x : DataW H × List MemPlace), DataW.trod enc P w base sp held fuel t cs = some x → ∃ a : α, kd.K w a cs
theorem opens_row {P : Program} {t e : TypeId} {α : Type} {kd : Kd α} (ht : P.underlying t = some (.slice e)) (hs : P.cellsOf e = kd.sz) (ho : Opens P e kd)
    {H : Type} {enc : TypeId × Value → H} {w : World} {base : Nat} {sp : Nat → Bool} {held : Bool} {fuel : Nat} {cs : List Value} {x : DataW H × List MemPlace} (h : DataW.trod enc P w base sp held fuel t cs = some x) :
    ∃ (A : Option Addr) (c : Nat) (xs : List α), cs = [.slice A xs.length c] ∧ xs.length ≤ c ∧ kd.C w A xs.length xs := by
  rcases Go.Deep.open_slice ht h with ⟨rfl, _⟩ | ⟨a, len, cap, m, n, D, Pl, rfl, _, hl, hc, hm, _, hel⟩
  · exact ⟨none, 0, [], rfl, Nat.le_refl _, rfl, Nat.zero_le _, fun h => absurd h (by simp)⟩
  · have hlm : len ≤ m := by rw [hm]; split <;> omega
    have hone : ∀ i : Nat, i < len → ∃ (x : α) (cs' : List Value), kd.K w x cs' ∧ w.cells? base (a.add (i * P.cellsOf e)) (P.cellsOf e) = some cs' := by
      intro i hi
      obtain ⟨cs', h1, h2⟩ := hel i (by omega)
      obtain ⟨x, hx⟩ := ho _ _ _ _ _ _ _ _ _ h2
      exact ⟨x, cs', hx, h1⟩
    have hall : ∀ k : Nat, k ≤ len → ∃ xs : List α, xs.length = k ∧ ∀ (j : Nat) (p : α), xs[j]? = some p → ∃ cs', kd.K w p cs' ∧ w.cells? base (a.add (j * P.cellsOf e)) (P.cellsOf e) = some cs' := by
      intro k
      induction k with
      | zero => exact fun _ => ⟨[], rfl, fun j p hp => by simp at hp⟩
      | succ k ih =>
        intro hk
        obtain ⟨xs, hl, hx⟩ := ih (by omega)
        obtain ⟨x, cs', h1, h2⟩ := hone k (by omega)
        refine ⟨xs ++ [x], by simp [hl], fun j p hp => ?_⟩
        by_cases hj : j < xs.length
        · rw [List.getElem?_append_left hj] at hp
          exact hx j p hp
        · have hjk : j = k := by
            have := (List.getElem?_eq_some_iff.1 hp).1
            simp at this
            omega
          subst hjk
          rw [List.getElem?_append_right (by omega), hl] at hp
          simp at hp
          subst hp
          exact ⟨cs', h1, h2⟩
    obtain ⟨xs, hl2, hx⟩ := hall len (Nat.le_refl _)
    subst hl2
    refine ⟨some a, cap, xs, rfl, hl, rfl, Nat.le_trans hl hc, fun _ => ⟨a, rfl, fun j p hp => ?_⟩⟩
    obtain ⟨cs', h1, h2⟩ := hx j p hp
    obtain ⟨_, h4, h5⟩ := World.cells?_some h2
    refine ⟨cs', h4.trans hs, h1, fun i u hu => ?_⟩
    have hi : i < P.cellsOf e := by rw [← h4]; exact (List.getElem?_eq_some_iff.1 hu).1
    have := h5 i hi
    rw [hu] at this
    rw [← this, ← hs]
    congr 1
    simp only [Addr.add]
    by_cases e1 : j * P.cellsOf e = 0 <;> by_cases e2 : i = 0 <;> simp [e1, e2, Nat.add_assoc]
theorem wf_u8 {n : Int} (h : (Lit.int .u8 n).wf = true) : 0 ≤ n ∧ n ≤ 255 := by
  have h' : (decide ((0 : Int) ≤ n) && decide (n ≤ 255)) = true := h
  simpa using h'
end Go.Proofs.YtpedagpcblnnhaaGreatY
namespace Go.Proofs.YtpedagpcblnnhaaGreatY
open Go.RowKit Go.Proofs.YtpedagpcblnnhaaGreatW.PrintWords
end Go.Proofs.YtpedagpcblnnhaaGreatY
namespace Go.Proofs.YtpedagpcblnnhaaGreatY
def splitL : List UInt8 → List (List UInt8)
  | [] => [[]]
  | c :: l => if c = 47 then [] :: splitL l else match splitL l with
    | [] => [[c]]
    | h :: t => (c :: h) :: t
def oddL (l : List UInt8) : Bool := l == [] || l == [46] || l == [46, 46]
def mayL (l : List UInt8) : Bool := (splitL l).all (fun x => !oddL x) && (decide (l.length ≤ 300) && !l.contains 0)
theorem splitL_ne (l : List UInt8) : splitL l ≠ [] := by
  cases l with
  | nil => simp [splitL]
  | cons c l => unfold splitL; split <;> (try split) <;> simp
theorem splitL_slash (l : List UInt8) : splitL (47 :: l) = [] :: splitL l := by simp [splitL]
theorem splitL_cons {c : UInt8} (hc : c ≠ 47) (l : List UInt8) : ∃ h t, splitL l = h :: t ∧ splitL (c :: l) = (c :: h) :: t := by
  cases hl : splitL l with
  | nil => exact absurd hl (splitL_ne l)
  | cons h t => exact ⟨h, t, rfl, by simp [splitL, hc, hl]⟩
theorem splitL_append (a b : List UInt8) : splitL (a ++ 47 :: b) = splitL a ++ splitL b := by
  induction a with
  | nil => simp [splitL]
  | cons c a ih =>
    by_cases hc : c = 47
    · subst hc; rw [List.cons_append, splitL_slash, splitL_slash, ih]; rfl
    · obtain ⟨h, t, h1, h2⟩ := splitL_cons hc a
      obtain ⟨h', t', h3, h4⟩ := splitL_cons hc (a ++ 47 :: b)
      rw [List.cons_append, h4, h2]
      rw [ih, h1] at h3
      injection h3 with e1 e2
      rw [← e1, ← e2]; rfl
theorem splitL_one {l : List UInt8} (h : (47 : UInt8) ∉ l) : splitL l = [l] := by
  induction l with
  | nil => rfl
  | cons c l ih =>
    have hc : c ≠ 47 := fun e => h (by simp [e])
    obtain ⟨h', t, h1, h2⟩ := splitL_cons hc l
    rw [ih (fun e => h (by simp [e]))] at h1
    injection h1 with e1 e2
    rw [h2, ← e1, ← e2]
def splitA (s : ByteArray) : List ByteArray := (splitL s.data.toList).map fun l => ⟨l.toArray⟩
theorem indexByte_split {l : List UInt8} {n : Nat} (h : Lib.indexByte l 47 = (n : Int)) : l = l.take n ++ 47 :: l.drop (n + 1) ∧ (47 : UInt8) ∉ l.take n := by
  obtain ⟨h1, h2⟩ := Lib.indexByte_some h
  obtain ⟨hlt, he⟩ := List.getElem?_eq_some_iff.1 h1
  refine ⟨?_, fun hm => ?_⟩
  · conv => lhs; rw [← List.take_append_drop n l, List.drop_eq_getElem_cons hlt, he]
  · obtain ⟨k, hk, e⟩ := List.getElem_of_mem hm
    have hk2 : k < n := by simp at hk; omega
    refine h2 k hk2 ?_
    rw [List.getElem?_eq_getElem (by omega)]
    rw [List.getElem_take] at e
    rw [e]
theorem indexByte_none' {l : List UInt8} {c : UInt8} (h : ¬ 0 ≤ Lib.indexByte l c) : c ∉ l := by
  intro hm
  obtain ⟨k, hk, e⟩ := List.getElem_of_mem hm
  have h0 : Lib.indexByte l c = -1 := by have := Lib.indexByte_ge l c; omega
  exact Lib.indexByte_none h0 k (by rw [List.getElem?_eq_getElem hk, e])
theorem indexByte_lt {l : List UInt8} {c : UInt8} {n : Nat} (h : Lib.indexByte l c = (n : Int)) : n < l.length := by
  obtain ⟨hlt, _⟩ := List.getElem?_eq_some_iff.1 (Lib.indexByte_some h).1
  exact hlt
theorem ext_data {a b : ByteArray} (h : a.data.toList = b.data.toList) : a = b := by
  cases a; cases b
  simp only [ByteArray.mk.injEq]
  exact Array.toList_inj.1 h
theorem splitA_found {s : ByteArray} {n : Nat} (h : Lib.indexByte s.data.toList 47 = (n : Int)) : splitA s = s.extract 0 n :: splitA (s.extract (n + 1) s.size) := by
  obtain ⟨h1, h2⟩ := indexByte_split h
  unfold splitA
  have e1 : (s.extract (n + 1) s.size).data.toList = s.data.toList.drop (n + 1) := Lib.extract_to_end s (n + 1)
  rw [e1]
  conv => lhs; rw [h1, splitL_append, splitL_one h2]
  simp only [List.cons_append, List.nil_append, List.map_cons, List.cons.injEq, and_true]
  exact ext_data (by simp)
theorem splitA_none {s : ByteArray} (h : ¬ 0 ≤ Lib.indexByte s.data.toList 47) : splitA s = [s] := by
  unfold splitA
  rw [splitL_one (indexByte_none' h)]
  rfl
end Go.Proofs.YtpedagpcblnnhaaGreatY
namespace Go.Proofs.YtpedagpcblnnhaaGreatY
open Go.RowKit Go.Proofs.YtpedagpcblnnhaaGreatW.PrintWords
variable {F : Fence} {nF : Nat} {P : Program} {ops : Array Oper} {rest : List Oper} {o : Oper} {a : Act} {Q : Exit → Act → World → Prop} {α : Type}
theorem RIn_append (d : Kd α) {w0 W : World} (base : Nat) (hgd : o.guard = none) (s x : Operand) (t e : TypeId) (z : Value) (bytes : Nat)
    (ho : o.op = .call { callee := .builtin .append, args := #[s, x], argTypes := #[t, t] })
    (ht : P.underlying t = some (.slice e)) (hinfo : (P.info? e).map (fun i => (i.zero, i.size, i.bytes)) = some (some z, d.sz, bytes)) (hz : z.cells.size = d.sz) (hs0 : 0 < d.sz) (hb0 : 0 < bytes)
    (v : Value) (xs : List α) (p : α) (cs : List Value) (ok okp : Nat → Prop) (hs : a.eval s = v) (hx : a.eval x = .slice (some ⟨W.heap.size, 0, none⟩) 1 1) (hp : d.M W base okp p cs) (hokp : ∀ k, okp k → ok k ∧ some k ≠ v.ownBlock) (hfresh : ∀ k, W.heap.size ≤ k → ok k)
    (HO : d.R e W base ok v xs) (HB : Below base w0 W) (hbase : base ≤ W.heap.size) (hl : (xs.length + 1) * bytes ≤ 140737488355328)
    (h : ∀ v1 w1, d.R e w1 base ok v1 (xs ++ [p]) → Below base w0 w1 → W.grownBy w1 v.ownBlock → (v1.ownBlock = v.ownBlock ∨ ∃ b, v1.ownBlock = some b ∧ W.heap.size ≤ b) → wpListIn F nF P ops Q rest (a.put o.dst v1) w1) :
    wpListIn F nF P ops Q (o :: rest) a (W.alloc (.cells cs.toArray e)) := by
  obtain ⟨h0, inner, hown, hr⟩ := HO
  obtain ⟨i0, hi, hzz⟩ := Option.map_eq_some_iff.1 hinfo
  simp only [Prod.mk.injEq] at hzz
  obtain ⟨hz0, hz1, hz2⟩ := hzz
  have hlen : xs.length + 1 ≤ 140737488355328 := Nat.le_trans (Nat.le_mul_of_pos_right _ hb0) hl
  have hys := d.K_len (d.K_of_M hp)
  refine Go.wpListIn_append_own_at (w := W.alloc (.cells cs.toArray e)) hgd s x t ho base e i0 z d.sz bytes ht hi hz0 hz1 hz2 hz hs0 v xs.length inner hs (hown.alloc _) ⟨W.heap.size, 0, none⟩ 1 1 cs hx (by rw [hys]; simp)
    (by simpa using World.news_of_block (cs := cs.toArray) (t := e) (fr := (0, 0)) (heap_alloc_new W (.cells cs.toArray e))) (d.K_one (d.K_of_M hp)) (by simp only [maxLen]; omega) hl (by simp; omega) ?_
  intro v1 w1 hown1 hg _ hat
  have hat2 : v1.ownBlock = v.ownBlock ∨ ∃ b, v1.ownBlock = some b ∧ W.heap.size ≤ b := by
    rcases hat with hat | hat
    · exact .inl hat
    · exact .inr ⟨_, hat, by simp⟩
  have hg2 := World.grownBy.trans (World.grownBy_alloc W _ _) hg
  exact h v1 w1 (Kd.R_appended h0 hr hp hokp hfresh hown1 hg2 hat2) ((HB.alloc hbase _).grown hg (by simp; omega) (own_base hown)) hg2 hat2
end Go.Proofs.YtpedagpcblnnhaaGreatY
