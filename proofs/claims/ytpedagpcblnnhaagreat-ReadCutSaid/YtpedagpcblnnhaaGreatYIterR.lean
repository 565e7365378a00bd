import Derived.Test.YtpedagpcblnnhaaGreatYAll
namespace Go.Proofs.YtpedagpcblnnhaaGreatY
open Go.RowKit
def HandsOnR {α β : Type} (F : Fence) (n : Nat) (P : Program) (gf : Nat) (lb : Array Value) (encs : β → Array Value) (E : α → β → World → Prop) (xs : List α) (S N : Nat → Prop) (z : Nat) (w : World) : Prop :=
  ∀ (l : Nat) (J : List α → World → Prop) (Jx : World → Prop) (W : World), Turn (fun _ => False) w W → z ≤ W.heap.size →
    (∀ pre A A', J pre A → Turn S A A' → J pre A') → (∀ A A', Jx A → Turn S A A' → Jx A') →
    (∀ pre x y post W1, xs = pre ++ x :: post → J pre W1 → E x y W1 → YieldAt F (n - 1) P l (encs y) W1 fun e W' =>
      (e = .returned (.bool true) ∧ J (pre ++ [x]) W' ∧ W1.heap.size ≤ W'.heap.size ∧ ∀ k, (S k ∨ N k) → W'.heap[k]? = W1.heap[k]?) ∨ (e = .returned (.bool false) ∧ Jx W')) →
    J [] W →
    CallsIn F n P gf (#[.func (.yield l) #[] #[]] ++ lb) W fun e W' => (∃ v, e = .returned v) ∧ (J xs W' ∨ Jx W')
variable {F : Fence} {n : Nat} {P : Program}
theorem range_listR {α β : Type} {g : Operand} {ps : Array Tmp} {assign body : Code} {Q : Exit → Act → World → Prop} {a : Act} {w : World}
    (hro : F.round = none) (h1 : 1 ≤ n) {gf : Nat} {lb : Array Value} (hg : a.eval g = .func (.func gf) #[] lb) (hFg : F.fn gf) (eg : ∀ args w, (callFunc gf args).run P w = .ok (.enter gf args) w)
    {encs : β → Array Value} {E : α → β → World → Prop} {xs : List α} {S N : Nat → Prop} (hS : ∀ k, (S k ∨ N k) → k < w.heap.size) (hit : HandsOnR F (n - 1) P gf lb encs E xs S N (w.heap.size + 2) w)
    (hps : ∀ x, (encs x).size = ps.size)
    (hE : ∀ x y A A', E x y A → Turn (fun k => S k ∨ k = w.heap.size ∨ k = w.heap.size + 1) A A' → E x y A')
    (I : List α → World → Prop) (Ix : Code → World → Prop)
    (hI : ∀ pre A A', I pre A → Turn (fun k => S k ∨ k = w.heap.size ∨ k = w.heap.size + 1) A A' → I pre A')
    (hIx : ∀ c A A', Ix c A → Turn (fun k => S k ∨ k = w.heap.size ∨ k = w.heap.size + 1) A A' → Ix c A')
    (h0 : I [] w) (a₁ : β → Act)
    (hassign : ∀ (l : Nat) (x : β) (W : World) (K : Act → World → Prop), K (a₁ x) W →
      assign.wpIn (F.inRound l) (n - 1 - 1) P (Exit.then K (fun _ _ _ => False)) { tmps := (ps.zip (encs x)).foldl (fun t (p, v) => t.setIfInBounds p v) a.tmps, defers := [] } W)
    (hbody : ∀ (l : Nat) (pre : List α) (x : α) (y : β) (post : List α) (W : World), xs = pre ++ x :: post → I pre W → E x y W → w.heap.size + 2 ≤ W.heap.size →
      body.wpIn (F.inRound l) (n - 1 - 1) P (bodyEnds (fun k => S k ∨ N k) w.heap.size I Ix (pre ++ [x]) W) (a₁ y) W)
    (hdone : ∀ (W : World), I xs W → W.heap[w.heap.size]? = some (.deferred (some [])) → Q .normal { a with defers := { target := .collected w.heap.size, args := #[] } :: a.defers } W)
    (hstop : ∀ (c : Code) (W : World), Ix c W → W.heap[w.heap.size]? = some (.deferred (some [])) → c.wpIn F n P Q { a with defers := { target := .collected w.heap.size, args := #[] } :: a.defers } W) :
    (Code.rangeFunc g ps assign body).wpIn F n P Q a w := by
  refine wpIn_rangeFunc ?_
  intro fn hfn
  rw [hro]
  generalize hn0 : w.heap.size = n0 at *
  let rec' : LoopState → Option Code → Loop := fun st pe => { state := st, pending := pe, fn, tmps := a.tmps, params := ps, assign, body, defers := n0 }
  obtain ⟨rec, hrec⟩ : ∃ rec, rec = rec' := ⟨_, rfl⟩
  obtain ⟨W1, hW1⟩ : ∃ W1, (w.alloc (.deferred (some []))).alloc (.loop (rec .ready none)) = W1 := ⟨_, rfl⟩
  have hs1 : W1.heap.size = n0 + 2 := by rw [← hW1]; simp [hn0]
  have hL1 : W1.heap[n0 + 1]? = some (.loop (rec .ready none)) := by
    rw [← hW1, ← hn0]; have := World.alloc_heap_new (w.alloc (.deferred (some []))) (.loop (rec .ready none)); rwa [World.size_alloc] at this
  have hK1 : W1.heap[n0]? = some (.deferred (some [])) := by
    rw [← hW1, ← hn0]; exact (Below.heap_alloc _ _ _ (by simp)).trans (World.alloc_heap_new w _)
  have hT1 : ∀ S', Turn S' w W1 := fun S' => by rw [← hW1]; exact (Turn.alloc _ _).trans (Turn.alloc _ _)
  have hI1 : I [] W1 := hI _ _ _ h0 (hT1 _)
  refine ⟨n0 + 1, [{ target := .collected n0, args := #[] }], W1, { target := .fn (.func gf) lb, args := #[.func (.yield (n0 + 1)) #[] #[]] }, W1, gf,
    #[.func (.yield (n0 + 1)) #[] #[]] ++ lb, W1, ?_, ?_, ?_, ?_, fun _ => h1, ?_⟩
  · have := run_enterLoop_outer (P := P) (w := w) fn a.tmps ps assign body
    rw [this, hn0, ← hW1, hrec]
  · simp only [resolve, hg]
    simp [go_sem]
  · intro f' hf'; simp [Target.leads] at hf'; subst hf'; exact hFg
  · simp [invoke, go_sem, eg]
  · have hSn : ∀ k, (S k ∨ N k) → k ≠ n0 ∧ k ≠ n0 + 1 := fun k hk => by have := hS k hk; omega
    refine (hit (n0 + 1)
      (fun pre W => I pre W ∧ n0 + 2 ≤ W.heap.size ∧ W.heap[n0 + 1]? = some (.loop (rec .ready none)) ∧ W.heap[n0]? = some (.deferred (some [])))
      (fun W => ∃ c, Ix c W ∧ n0 + 2 ≤ W.heap.size ∧ W.heap[n0 + 1]? = some (.loop (rec .done (some c))) ∧ W.heap[n0]? = some (.deferred (some [])))
      W1 (hT1 _) (by omega) ?_ ?_ ?_ ⟨hI1, by omega, hL1, hK1⟩).mono ?_
    · rintro pre A A' ⟨hi, hz, hl, hk⟩ ht
      exact ⟨hI _ _ _ hi (ht.mono fun _ h => .inl h), Nat.le_trans hz ht.size, (ht.block _ (by omega) (fun e => (hSn _ (.inl e)).2 rfl)).trans hl, (ht.block _ (by omega) (fun e => (hSn _ (.inl e)).1 rfl)).trans hk⟩
    · rintro A A' ⟨c, hi, hz, hl, hk⟩ ht
      exact ⟨c, hIx _ _ _ hi (ht.mono fun _ h => .inl h), Nat.le_trans hz ht.size, (ht.block _ (by omega) (fun e => (hSn _ (.inl e)).2 rfl)).trans hl, (ht.block _ (by omega) (fun e => (hSn _ (.inl e)).1 rfl)).trans hk⟩
    · rintro pre x y post W hx ⟨hi, hz, hl, hk⟩ hE1
      have hy := run_yield (P := P) (args := encs y) hl (by rw [hrec]; exact hps y)
      rw [hrec] at hy
      refine ⟨fn, _, assign, body, hy, roundIn_of_wpIn hfn (hassign _ y W _ ⟨_, run_beginRound hl (by rw [hrec]), ?_⟩)⟩
      have hb : Turn (fun k => S k ∨ k = n0 ∨ k = n0 + 1) W (W.putObj (n0 + 1) (.loop { rec .ready none with state := .busy })) := Turn.putObj _ _ (.inr (.inr rfl))
      have hl2 : (W.putObj (n0 + 1) (.loop { rec .ready none with state := .busy })).heap[n0 + 1]? = some (.loop { rec .ready none with state := .busy }) := World.putObj_heap_same (by omega)
      have hk2 : (W.putObj (n0 + 1) (.loop { rec .ready none with state := .busy })).heap[n0]? = some (.deferred (some [])) := (World.putObj_heap_other (by omega)).trans hk
      refine wpIn_mono (hbody _ pre x y post _ hx (hI _ _ _ hi hb) (hE _ _ _ _ hE1 hb) (by simpa using hz)) ?_
      have fin : ∀ (jump : Option Code) (W3 : World), Stay (fun k => S k ∨ N k) n0 (W.putObj (n0 + 1) (.loop { rec .ready none with state := .busy })) W3 →
          (Instr.endRound (n0 + 1) jump).run P W3 = .ok (.bool jump.isNone) (W3.putObj (n0 + 1) (.loop (rec (if jump.isNone then .ready else .done) jump))) ∧
          Turn (fun k => S k ∨ k = n0 ∨ k = n0 + 1) W3 (W3.putObj (n0 + 1) (.loop (rec (if jump.isNone then .ready else .done) jump))) ∧
          n0 + 2 ≤ (W3.putObj (n0 + 1) (.loop (rec (if jump.isNone then .ready else .done) jump))).heap.size ∧
          (W3.putObj (n0 + 1) (.loop (rec (if jump.isNone then .ready else .done) jump))).heap[n0 + 1]? = some (.loop (rec (if jump.isNone then .ready else .done) jump)) ∧
          (W3.putObj (n0 + 1) (.loop (rec (if jump.isNone then .ready else .done) jump))).heap[n0]? = some (.deferred (some [])) := fun jump W3 hst => by
        have hl3 := (hst.own _ (.inr (.inr rfl))).trans hl2
        have hz3 : n0 + 2 ≤ W3.heap.size := Nat.le_trans hz (by simpa using hst.size)
        have := run_endRound (P := P) jump hl3
        rw [hrec] at this ⊢
        exact ⟨this, Turn.putObj _ _ (.inr (.inr rfl)), by simpa using hz3, World.putObj_heap_same (by omega), (World.putObj_heap_other (by omega)).trans ((hst.own _ (.inr (.inl rfl))).trans hk2)⟩
      rintro e a3 W3 hp
      cases e with
      | normal =>
        obtain ⟨hst, hi3⟩ := hp
        obtain ⟨hr, ht, hz4, hl4, hk4⟩ := fin none W3 hst
        refine ⟨_, _, hr, .inl ⟨rfl, ⟨hI _ _ _ hi3 ht, hz4, hl4, hk4⟩, ?_, fun k hk => ?_⟩⟩
        · simpa using hst.size
        · have := hSn k hk
          exact (World.putObj_heap_other (by omega)).trans ((hst.own k (.inl hk)).trans (World.putObj_heap_other (by omega)))
      | ret =>
        obtain ⟨hst, hi3⟩ := hp
        obtain ⟨hr, ht, hz4, hl4, hk4⟩ := fin (some .ret) W3 hst
        exact ⟨_, _, hr, .inr ⟨rfl, .ret, hIx _ _ _ hi3 ht, hz4, hl4, hk4⟩⟩
      | exit id =>
        obtain ⟨hst, hi3⟩ := hp
        obtain ⟨hr, ht, hz4, hl4, hk4⟩ := fin (some (.exit id)) W3 hst
        exact ⟨_, _, hr, .inr ⟨rfl, .exit id, hIx _ _ _ hi3 ht, hz4, hl4, hk4⟩⟩
      | goto t =>
        obtain ⟨hst, hi3⟩ := hp
        obtain ⟨hr, ht, hz4, hl4, hk4⟩ := fin (some (.goto t)) W3 hst
        exact ⟨_, _, hr, .inr ⟨rfl, .goto t, hIx _ _ _ hi3 ht, hz4, hl4, hk4⟩⟩
      | panic ch => exact hp.elim
      | outgrown => exact hp.elim
    · have hfinal : ∀ W2 : World, n0 + 2 ≤ W2.heap.size → Turn (fun k => S k ∨ k = n0 ∨ k = n0 + 1) W2 (W2.putObj (n0 + 1) (.loop { rec' .ready none with state := .exhausted })) := fun W2 _ => Turn.putObj _ _ (.inr (.inr rfl))
      rintro e W2 ⟨⟨v, rfl⟩, (⟨hi, hz, hl, hk⟩ | ⟨c, hi, hz, hl, hk⟩)⟩
      · refine ⟨none, _, by have := run_endLoop (P := P) hl (by rw [hrec]; simp [rec']); rw [hrec] at this; exact this, hdone _ (hI _ _ _ hi (Turn.putObj _ _ (.inr (.inr rfl)))) ((World.putObj_heap_other (by omega)).trans hk)⟩
      · refine ⟨some c, _, by have := run_endLoop (P := P) hl (by rw [hrec]; simp [rec']); rw [hrec] at this; exact this, hstop _ _ (hIx _ _ _ hi (Turn.putObj _ _ (.inr (.inr rfl)))) ((World.putObj_heap_other (by omega)).trans hk)⟩
end Go.Proofs.YtpedagpcblnnhaaGreatY
