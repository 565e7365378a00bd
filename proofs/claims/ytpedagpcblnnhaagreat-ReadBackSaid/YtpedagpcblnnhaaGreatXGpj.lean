import Derived.Test.YtpedagpcblnnhaaGreatXK
import Derived.Test.YtpedagpcblnnhaaGreatXGhead
import Derived.Test.YtpedagpcblnnhaaGreatXGnum
import Derived.Test.YtpedagpcblnnhaaGreatXGpa
import Derived.Test.YtpedagpcblnnhaaGreatXGpd
import Derived.Test.YtpedagpcblnnhaaGreatXGpg
import Derived.Test.YtpedagpcblnnhaaGreatXGslices
import Derived.Test.YtpedagpcblnnhaaGreatYAll
import Derived.Test.YtpedagpcblnnhaaGreatP04g
import Derived.Test.YtpedagpcblnnhaaGreatPGA
import Derived.Test.YtpedagpcblnnhaaGreatPGE
import Derived.Deep.RegionHeld3
import Derived.Laws.EntriesVeiled
import Derived.WalkSpells
namespace Go.Proofs.YtpedagpcblnnhaaGreat.X
open Go.RowKit Go.Proofs.YtpedagpcblnnhaaGreatW.PrintWords Go.Proofs.YtpedagpcblnnhaaGreatW.PrintLast Go.Proofs.YtpedagpcblnnhaaGreatW.PrintMore
attribute [local go_sem] max2_int min2_int max_two min_two
set_option linter.unusedVariables false
set_option linter.unusedSimpArgs false
open Go.Proofs.YtpedagpcblnnhaaGreatY
set_option maxRecDepth 100000
theorem R_otherT {W : World} {base g : Nat} {v : Value} {l : List Evt} {cs : Array Value} {T : TypeId} (hR : Kd.R k45 45 W base (fun _ => True) v l) (hZ : W.heap[g]? = some (.cells cs T (0, 0))) (hT : T ≠ 45) (j : Nat) (x : Value) : Kd.R k45 45 (W.setCell ⟨g, j, none⟩ x) base (fun _ => True) v l :=
  Kd.R_mono (Kd.R_far (Kd.R_mono (Kd.R_bound hR) (ok' := fun k => k ≠ g) (fun k hk => fun he => by
    subst he
    obtain ⟨q, hq, cells, hc⟩ := hk.2.2.2
    rw [hZ] at hc
    injection hc with hc
    injection hc with _ hc _
    have hE : k45.E = [] := by first | rfl | decide
    have : q = 45 := by simpa [hE] using hq
    exact hT (hc.trans this))) (p := ⟨g, j, none⟩) (fun k hk => hk) x) (fun _ _ => trivial)
theorem other14 {W : World} {base g : Nat} {v : Value} {l : List Evt} {cs : Array Value} {T : TypeId} (hR : Kd.R k45 45 W base (fun _ => True) v l) (hZ : W.heap[g]? = some (.cells cs T (0, 0))) (hT : T ≠ 45) (s : Pst) : Kd.R k45 45 (((((((((((((((W.setCell ⟨g, 0, none⟩ (.int .i64 s.f0)).setCell ⟨g, 1, none⟩ (.string s.f1.f0)).setCell ⟨g, 2, none⟩ (.string s.f1.f1)).setCell ⟨g, 3, none⟩ (.int .u8 s.f1.f2)).setCell ⟨g, 4, none⟩ (.int .i64 s.f1.f3)).setCell ⟨g, 5, none⟩ (.int .i64 s.f1.f4)).setCell ⟨g, 6, none⟩ (.int .i64 s.f1.f5)).setCell ⟨g, 7, none⟩ (.int .i64 s.f1.f6)).setCell ⟨g, 8, none⟩ (.string s.f1.f7)).setCell ⟨g, 9, none⟩ (.int .i64 s.f2)).setCell ⟨g, 10, none⟩ (.int .i64 s.f3)).setCell ⟨g, 11, none⟩ (.string s.f4)).setCell ⟨g, 12, none⟩ (.string s.f5)).setCell ⟨g, 13, none⟩ (.string s.f6))) base (fun _ => True) v l :=
  R_otherT (R_otherT (R_otherT (R_otherT (R_otherT (R_otherT (R_otherT (R_otherT (R_otherT (R_otherT (R_otherT (R_otherT (R_otherT (R_otherT (hR) (hZ) hT 0 (.int .i64 s.f0)) (blk_set (hZ) 0 (.int .i64 s.f0)) hT 1 (.string s.f1.f0)) (blk_set (blk_set (hZ) 0 (.int .i64 s.f0)) 1 (.string s.f1.f0)) hT 2 (.string s.f1.f1)) (blk_set (blk_set (blk_set (hZ) 0 (.int .i64 s.f0)) 1 (.string s.f1.f0)) 2 (.string s.f1.f1)) hT 3 (.int .u8 s.f1.f2)) (blk_set (blk_set (blk_set (blk_set (hZ) 0 (.int .i64 s.f0)) 1 (.string s.f1.f0)) 2 (.string s.f1.f1)) 3 (.int .u8 s.f1.f2)) hT 4 (.int .i64 s.f1.f3)) (blk_set (blk_set (blk_set (blk_set (blk_set (hZ) 0 (.int .i64 s.f0)) 1 (.string s.f1.f0)) 2 (.string s.f1.f1)) 3 (.int .u8 s.f1.f2)) 4 (.int .i64 s.f1.f3)) hT 5 (.int .i64 s.f1.f4)) (blk_set (blk_set (blk_set (blk_set (blk_set (blk_set (hZ) 0 (.int .i64 s.f0)) 1 (.string s.f1.f0)) 2 (.string s.f1.f1)) 3 (.int .u8 s.f1.f2)) 4 (.int .i64 s.f1.f3)) 5 (.int .i64 s.f1.f4)) hT 6 (.int .i64 s.f1.f5)) (blk_set (blk_set (blk_set (blk_set (blk_set (blk_set (blk_set (hZ) 0 (.int .i64 s.f0)) 1 (.string s.f1.f0)) 2 (.string s.f1.f1)) 3 (.int .u8 s.f1.f2)) 4 (.int .i64 s.f1.f3)) 5 (.int .i64 s.f1.f4)) 6 (.int .i64 s.f1.f5)) hT 7 (.int .i64 s.f1.f6)) (blk_set (blk_set (blk_set (blk_set (blk_set (blk_set (blk_set (blk_set (hZ) 0 (.int .i64 s.f0)) 1 (.string s.f1.f0)) 2 (.string s.f1.f1)) 3 (.int .u8 s.f1.f2)) 4 (.int .i64 s.f1.f3)) 5 (.int .i64 s.f1.f4)) 6 (.int .i64 s.f1.f5)) 7 (.int .i64 s.f1.f6)) hT 8 (.string s.f1.f7)) (blk_set (blk_set (blk_set (blk_set (blk_set (blk_set (blk_set (blk_set (blk_set (hZ) 0 (.int .i64 s.f0)) 1 (.string s.f1.f0)) 2 (.string s.f1.f1)) 3 (.int .u8 s.f1.f2)) 4 (.int .i64 s.f1.f3)) 5 (.int .i64 s.f1.f4)) 6 (.int .i64 s.f1.f5)) 7 (.int .i64 s.f1.f6)) 8 (.string s.f1.f7)) hT 9 (.int .i64 s.f2)) (blk_set (blk_set (blk_set (blk_set (blk_set (blk_set (blk_set (blk_set (blk_set (blk_set (hZ) 0 (.int .i64 s.f0)) 1 (.string s.f1.f0)) 2 (.string s.f1.f1)) 3 (.int .u8 s.f1.f2)) 4 (.int .i64 s.f1.f3)) 5 (.int .i64 s.f1.f4)) 6 (.int .i64 s.f1.f5)) 7 (.int .i64 s.f1.f6)) 8 (.string s.f1.f7)) 9 (.int .i64 s.f2)) hT 10 (.int .i64 s.f3)) (blk_set (blk_set (blk_set (blk_set (blk_set (blk_set (blk_set (blk_set (blk_set (blk_set (blk_set (hZ) 0 (.int .i64 s.f0)) 1 (.string s.f1.f0)) 2 (.string s.f1.f1)) 3 (.int .u8 s.f1.f2)) 4 (.int .i64 s.f1.f3)) 5 (.int .i64 s.f1.f4)) 6 (.int .i64 s.f1.f5)) 7 (.int .i64 s.f1.f6)) 8 (.string s.f1.f7)) 9 (.int .i64 s.f2)) 10 (.int .i64 s.f3)) hT 11 (.string s.f4)) (blk_set (blk_set (blk_set (blk_set (blk_set (blk_set (blk_set (blk_set (blk_set (blk_set (blk_set (blk_set (hZ) 0 (.int .i64 s.f0)) 1 (.string s.f1.f0)) 2 (.string s.f1.f1)) 3 (.int .u8 s.f1.f2)) 4 (.int .i64 s.f1.f3)) 5 (.int .i64 s.f1.f4)) 6 (.int .i64 s.f1.f5)) 7 (.int .i64 s.f1.f6)) 8 (.string s.f1.f7)) 9 (.int .i64 s.f2)) 10 (.int .i64 s.f3)) 11 (.string s.f4)) hT 12 (.string s.f5)) (blk_set (blk_set (blk_set (blk_set (blk_set (blk_set (blk_set (blk_set (blk_set (blk_set (blk_set (blk_set (blk_set (hZ) 0 (.int .i64 s.f0)) 1 (.string s.f1.f0)) 2 (.string s.f1.f1)) 3 (.int .u8 s.f1.f2)) 4 (.int .i64 s.f1.f3)) 5 (.int .i64 s.f1.f4)) 6 (.int .i64 s.f1.f5)) 7 (.int .i64 s.f1.f6)) 8 (.string s.f1.f7)) 9 (.int .i64 s.f2)) 10 (.int .i64 s.f3)) 11 (.string s.f4)) 12 (.string s.f5)) hT 13 (.string s.f6)
def StOk (s : Pst) : Prop := s.f5.size ≤ 1000 ∧ s.f6.size ≤ 1000 ∧ s.f1.f0.size ≤ 1000 ∧ s.f1.f1.size ≤ 1000
theorem st0_ok : StOk st0 := by unfold StOk st0 nd00; exact ⟨by decide, by decide, by decide, by decide⟩
theorem textP_ok {s : Pst} {h : Hd} {own : ByteArray} {ph : Int} {l l' : List Evt} {t : Pst} (hs : StOk s) (e : textP s h own ph l = .ok (t, l')) : StOk t ∧ l' = l := by
  unfold textP at e
  split at e
  · split at e
    · cases e; exact ⟨hs, rfl⟩
    · cases e
  · cases e
theorem one_sizes {n : Nd} (h : oneB n = true) : n.f0.size ≤ 300 ∧ n.f1.size ≤ 300 := by
  have hf := oneB_facts h
  refine ⟨(mayL_pos hf.path).2, ?_⟩
  rcases hf.kind with ⟨_, h1, _⟩ | ⟨_, h1, _⟩ | ⟨_, h1, _⟩ | ⟨_, h1, _⟩
  · omega
  · exact (mayL_pos h1).2
  · exact (textB_size h1).2
  · omega
theorem nodeP_ok {s : Pst} {h : Hd} {l l' : List Evt} {t : Pst} (e : nodeP s h l = .ok (t, l')) : StOk t ∧ l'.length ≤ l.length + 2 := by
  unfold nodeP at e
  generalize (if h.f8 = 48 then (4000 : Int) else 0) = MX at e
  split at e
  · split at e
    · split at e
      · split at e
        · rename_i _ _ _ ho
          rw [Bool.and_eq_true] at ho
          have hz := one_sizes ho.1
          split at e
          · cases e; exact ⟨st0_ok, by simp⟩
          · cases e; exact ⟨⟨(show (⟨#[]⟩ : ByteArray).size ≤ 1000 by decide), (show (⟨#[]⟩ : ByteArray).size ≤ 1000 by decide), Nat.le_trans hz.1 (by decide), Nat.le_trans hz.2 (by decide)⟩, by simp⟩
        · cases e
      · cases e
    · cases e
  · cases e
theorem headP_ok {s : Pst} {x : List Int} {l l' : List Evt} {t : Pst} (hs : StOk s) (e : headP s x l = .ok (t, l')) : StOk t ∧ l'.length ≤ l.length + 2 := by
  unfold headP at e
  split at e
  · split at e
    · cases e; exact ⟨hs, by omega⟩
    · cases e
  · split at e
    · split at e
      · have h := textP_ok hs e; exact ⟨h.1, by rw [h.2]; omega⟩
      · split at e
        · have h := textP_ok hs e; exact ⟨h.1, by rw [h.2]; omega⟩
        · split at e
          · cases e
          · exact nodeP_ok e
    · cases e
theorem cutZ_size (s : ByteArray) : (cutZ s).size ≤ s.size := by
  unfold cutZ
  split
  · rw [ByteArray.size_extract]; omega
  · exact Nat.le_refl _
theorem nameP_ok {s : Pst} {x : List Int} {l l' : List Evt} {t : Pst} (hs : StOk s) (hx : x.length = 512) (e : nameP s x l = .ok (t, l')) : StOk t ∧ l' = l := by
  have hz : (cutZ (strOfNums (x.take s.f2.toNat))).size ≤ 1000 := by
    have h1 := cutZ_size (strOfNums (x.take s.f2.toNat))
    rw [strOfNums_size, List.length_take] at h1
    omega
  unfold nameP at e
  split at e
  · split at e
    · cases e; exact ⟨⟨hz, hs.2⟩, rfl⟩
    · cases e; exact ⟨⟨hs.1, hz, hs.2.2⟩, rfl⟩
  · cases e
theorem dataP_ok {s : Pst} {x : List Int} {l l' : List Evt} {t : Pst} (hs : StOk s) (e : dataP s x l = .ok (t, l')) : StOk t ∧ l'.length ≤ l.length + 2 := by
  unfold dataP at e
  split at e
  · cases e; exact ⟨st0_ok, by simp⟩
  · cases e; exact ⟨hs, by simp⟩
theorem stepP_ok {s : Pst} {x : List Int} {l : List Evt} {t : Pst} (hs : StOk s) (e : stepP s x = .ok (t, l)) : StOk t ∧ l.length ≤ 2 := by
  unfold stepP at e
  split at e
  · rename_i hm
    rw [Bool.and_eq_true, decide_eq_true_eq] at hm
    split at e
    · exact headP_ok hs e
    · split at e
      · have h := nameP_ok hs hm.2 e; exact ⟨h.1, by rw [h.2]; decide⟩
      · split at e
        · have h := nameP_ok hs hm.2 e; exact ⟨h.1, by rw [h.2]; decide⟩
        · split at e
          · exact dataP_ok hs e
          · split at e
            · unfold zeroP at e
              split at e
              · cases e; exact ⟨hs, by decide⟩
              · cases e
            · cases e
  · cases e
theorem stepR_ok {s : Pst} {x : List Int} (hs : StOk s) : StOk (stepR s x).1 ∧ (stepR s x).2.1.length ≤ 2 := by
  unfold stepR
  cases h : stepP s x with
  | error k => exact ⟨hs, by simp [resR]⟩
  | ok r => obtain ⟨t, l⟩ := r; exact stepP_ok hs h
def runP : Pst → List (List Int) → List Evt → Nat → Pst × List Evt × Nat × Int
  | s, [], all, i => (s, all, i, 0)
  | s, x :: l, all, i =>
    if (stepR s x).2.2 = 0 then (if (stepR s x).1.f0 = 5 then ((stepR s x).1, all ++ (stepR s x).2.1, i + 1, 0) else runP (stepR s x).1 l (all ++ (stepR s x).2.1) (i + 1))
    else (s, all, i, (stepR s x).2.2)
def runR (s : Pst) (l : List (List Int)) : Pst × List Evt × Nat × Int := runP s l [] 0
def RunPost (w : World) (r : Pst × List Evt × Nat × Int) (e : Ending) (w' : World) : Prop :=
  ∃ A c, e = .returned (.tuple #[.agg #[.int .i64 r.1.f0, .string r.1.f1.f0, .string r.1.f1.f1, .int .u8 r.1.f1.f2, .int .i64 r.1.f1.f3, .int .i64 r.1.f1.f4, .int .i64 r.1.f1.f5, .int .i64 r.1.f1.f6, .string r.1.f1.f7, .int .i64 r.1.f2, .int .i64 r.1.f3, .string r.1.f4, .string r.1.f5, .string r.1.f6], .slice A r.2.1.length c, .int .i64 (r.2.2.1 : Int), .int .i64 r.2.2.2]) ∧ Aside0 (Kd.R k45 45 w' w.heap.size (fun _ => True) (.slice A r.2.1.length c) r.2.1) ∧ Below w.heap.size w w'
structure RunAt (w : World) (s : Pst) (W : World) : Prop where
  bel : Below w.heap.size w W
  hs : W.heap[w.heap.size]? = some (.cells #[.int .i64 s.f0, .string s.f1.f0, .string s.f1.f1, .int .u8 s.f1.f2, .int .i64 s.f1.f3, .int .i64 s.f1.f4, .int .i64 s.f1.f5, .int .i64 s.f1.f6, .string s.f1.f7, .int .i64 s.f2, .int .i64 s.f3, .string s.f4, .string s.f5, .string s.f6] 49 (0, 0))
  ht : W.heap[w.heap.size + 1]? = some (.cells #[.int .i64 0, .string ⟨#[]⟩, .string ⟨#[]⟩, .int .u8 0, .int .i64 0, .int .i64 0, .int .i64 0, .int .i64 0, .string ⟨#[]⟩, .int .i64 0, .int .i64 0, .string ⟨#[]⟩, .string ⟨#[]⟩, .string ⟨#[]⟩] 49 (0, 0))
theorem RunAt.step {w : World} {s : Pst} {W W' : World} (G : RunAt w s W) (h : Below W.heap.size W W') : RunAt w s W' := ⟨below_step G.bel h, blk_below G.hs h, blk_below G.ht h⟩
theorem RunAt.start (w : World) (s : Pst) : RunAt w s ((w.alloc (.cells #[.int .i64 s.f0, .string s.f1.f0, .string s.f1.f1, .int .u8 s.f1.f2, .int .i64 s.f1.f3, .int .i64 s.f1.f4, .int .i64 s.f1.f5, .int .i64 s.f1.f6, .string s.f1.f7, .int .i64 s.f2, .int .i64 s.f3, .string s.f4, .string s.f5, .string s.f6] 49)).alloc (.cells #[.int .i64 0, .string ⟨#[]⟩, .string ⟨#[]⟩, .int .u8 0, .int .i64 0, .int .i64 0, .int .i64 0, .int .i64 0, .string ⟨#[]⟩, .int .i64 0, .int .i64 0, .string ⟨#[]⟩, .string ⟨#[]⟩, .string ⟨#[]⟩] 49)) := by
  have a2 := heap_alloc_new (w.alloc (.cells #[.int .i64 s.f0, .string s.f1.f0, .string s.f1.f1, .int .u8 s.f1.f2, .int .i64 s.f1.f3, .int .i64 s.f1.f4, .int .i64 s.f1.f5, .int .i64 s.f1.f6, .string s.f1.f7, .int .i64 s.f2, .int .i64 s.f3, .string s.f4, .string s.f5, .string s.f6] 49)) (.cells #[.int .i64 0, .string ⟨#[]⟩, .string ⟨#[]⟩, .int .u8 0, .int .i64 0, .int .i64 0, .int .i64 0, .int .i64 0, .string ⟨#[]⟩, .int .i64 0, .int .i64 0, .string ⟨#[]⟩, .string ⟨#[]⟩, .string ⟨#[]⟩] 49)
  simp only [World.size_alloc] at a2
  exact ⟨below_alloc (below_alloc (Below.refl _ _) _) _, blk_alloc (heap_alloc_new w _) _, a2⟩
theorem RunAt.put {w : World} {s : Pst} {W : World} (G : RunAt w s W) (s' : Pst) : RunAt w s' (((((((((((((((W.setCell ⟨w.heap.size, 0, none⟩ (.int .i64 s'.f0)).setCell ⟨w.heap.size, 1, none⟩ (.string s'.f1.f0)).setCell ⟨w.heap.size, 2, none⟩ (.string s'.f1.f1)).setCell ⟨w.heap.size, 3, none⟩ (.int .u8 s'.f1.f2)).setCell ⟨w.heap.size, 4, none⟩ (.int .i64 s'.f1.f3)).setCell ⟨w.heap.size, 5, none⟩ (.int .i64 s'.f1.f4)).setCell ⟨w.heap.size, 6, none⟩ (.int .i64 s'.f1.f5)).setCell ⟨w.heap.size, 7, none⟩ (.int .i64 s'.f1.f6)).setCell ⟨w.heap.size, 8, none⟩ (.string s'.f1.f7)).setCell ⟨w.heap.size, 9, none⟩ (.int .i64 s'.f2)).setCell ⟨w.heap.size, 10, none⟩ (.int .i64 s'.f3)).setCell ⟨w.heap.size, 11, none⟩ (.string s'.f4)).setCell ⟨w.heap.size, 12, none⟩ (.string s'.f5)).setCell ⟨w.heap.size, 13, none⟩ (.string s'.f6))) :=
  have h := set14 (S := fun i => w.heap.size ≤ i) G.hs (Turn.refl _ _) (by omega) s'
  ⟨bel_turn G.bel h.2, h.1, far14 G.ht (by omega) s'⟩
theorem RunAt.grown {w : World} {s : Pst} {W W' : World} {r : Option Nat} (G : RunAt w s W) (hb : Below w.heap.size W W') (hg : W.grownBy W' r) (h1 : some w.heap.size ≠ r) (h2 : some (w.heap.size + 1) ≠ r) : RunAt w s W' :=
  ⟨⟨hb.os.trans G.bel.os, hb.tape.trans G.bel.tape, hb.output.trans G.bel.output, Nat.le_trans G.bel.size hg.size, fun i hi => (hb.block i hi).trans (G.bel.block i hi)⟩, (hg.block _ (blk_lt G.hs) h1).trans G.hs, (hg.block _ (blk_lt G.ht) h2).trans G.ht⟩
theorem RunAt.out {w : World} {s : Pst} {W : World} (G : RunAt w s W) (s' : Pst) : (((((((((((((((W.setCell ⟨w.heap.size + 1, 0, none⟩ (.int .i64 s'.f0)).setCell ⟨w.heap.size + 1, 1, none⟩ (.string s'.f1.f0)).setCell ⟨w.heap.size + 1, 2, none⟩ (.string s'.f1.f1)).setCell ⟨w.heap.size + 1, 3, none⟩ (.int .u8 s'.f1.f2)).setCell ⟨w.heap.size + 1, 4, none⟩ (.int .i64 s'.f1.f3)).setCell ⟨w.heap.size + 1, 5, none⟩ (.int .i64 s'.f1.f4)).setCell ⟨w.heap.size + 1, 6, none⟩ (.int .i64 s'.f1.f5)).setCell ⟨w.heap.size + 1, 7, none⟩ (.int .i64 s'.f1.f6)).setCell ⟨w.heap.size + 1, 8, none⟩ (.string s'.f1.f7)).setCell ⟨w.heap.size + 1, 9, none⟩ (.int .i64 s'.f2)).setCell ⟨w.heap.size + 1, 10, none⟩ (.int .i64 s'.f3)).setCell ⟨w.heap.size + 1, 11, none⟩ (.string s'.f4)).setCell ⟨w.heap.size + 1, 12, none⟩ (.string s'.f5)).setCell ⟨w.heap.size + 1, 13, none⟩ (.string s'.f6))).heap[w.heap.size + 1]? = some (.cells #[.int .i64 s'.f0, .string s'.f1.f0, .string s'.f1.f1, .int .u8 s'.f1.f2, .int .i64 s'.f1.f3, .int .i64 s'.f1.f4, .int .i64 s'.f1.f5, .int .i64 s'.f1.f6, .string s'.f1.f7, .int .i64 s'.f2, .int .i64 s'.f3, .string s'.f4, .string s'.f5, .string s'.f6] 49 (0, 0)) ∧ Below w.heap.size w (((((((((((((((W.setCell ⟨w.heap.size + 1, 0, none⟩ (.int .i64 s'.f0)).setCell ⟨w.heap.size + 1, 1, none⟩ (.string s'.f1.f0)).setCell ⟨w.heap.size + 1, 2, none⟩ (.string s'.f1.f1)).setCell ⟨w.heap.size + 1, 3, none⟩ (.int .u8 s'.f1.f2)).setCell ⟨w.heap.size + 1, 4, none⟩ (.int .i64 s'.f1.f3)).setCell ⟨w.heap.size + 1, 5, none⟩ (.int .i64 s'.f1.f4)).setCell ⟨w.heap.size + 1, 6, none⟩ (.int .i64 s'.f1.f5)).setCell ⟨w.heap.size + 1, 7, none⟩ (.int .i64 s'.f1.f6)).setCell ⟨w.heap.size + 1, 8, none⟩ (.string s'.f1.f7)).setCell ⟨w.heap.size + 1, 9, none⟩ (.int .i64 s'.f2)).setCell ⟨w.heap.size + 1, 10, none⟩ (.int .i64 s'.f3)).setCell ⟨w.heap.size + 1, 11, none⟩ (.string s'.f4)).setCell ⟨w.heap.size + 1, 12, none⟩ (.string s'.f5)).setCell ⟨w.heap.size + 1, 13, none⟩ (.string s'.f6))) :=
  have h := set14 (S := fun i => w.heap.size ≤ i) (t := st0) G.ht (Turn.refl _ _) (by omega) s'
  ⟨h.1, bel_turn G.bel h.2⟩
set_option maxHeartbeats 6400000 in
theorem parse_Run.at_ (s : Pst) (hs : StOk s) (B : Option Addr) (d : Nat) (L : List (List Int)) (hL : L.length ≤ 1000) (w : World) (hC : Kd.C (Kd.slice 5 (Kd.int .u8)) w B L.length L) (hd : L.length ≤ d) (hby : ∀ x ∈ L, ∀ y ∈ x, 0 ≤ y ∧ y ≤ 255) :
    Calls Tryz.prog 22 #[.agg #[.int .i64 s.f0, .string s.f1.f0, .string s.f1.f1, .int .u8 s.f1.f2, .int .i64 s.f1.f3, .int .i64 s.f1.f4, .int .i64 s.f1.f5, .int .i64 s.f1.f6, .string s.f1.f7, .int .i64 s.f2, .int .i64 s.f3, .string s.f4, .string s.f5, .string s.f6], .slice B L.length d] w (RunPost w (runR s L)) := by
  have HC := Aside0.mk hC
  have HS0 := Aside0.mk (RunAt.start w s)
  have HBY := Aside0.mk hby
  obtain ⟨R, hR⟩ : ∃ R, runR s L = R := ⟨_, rfl⟩
  rw [hR]
  have HRR := Aside0.mk hR
  have HSO := Aside0.mk hs
  clear hC hby hR hs
  go_enter Tryz.func22, Tryz.ntmps22
  go_wp2_with (fail)
  go_loopw [8, 16] (fun v8 v16 wr => ∃ (i : Nat) (st : Pst) (all : List Evt) (A : Option Addr) (c : Nat), v16 = .int .i64 i ∧ i ≤ L.length ∧ v8 = .slice A all.length c ∧ Aside0 (runP st (L.drop i) all i = R ∧ StOk st ∧ all.length ≤ 2 * i) ∧ Aside0 (Kd.R k45 45 wr w.heap.size (fun _ => True) (.slice A all.length c) all) ∧ Aside0 (RunAt w st wr)) (fun _ v16 _ => L.length - (intOf v16).toNat)
  case atStart => exact ⟨0, s, [], none, 0, rfl, Nat.zero_le _, rfl, ⟨HRR.out, HSO.out, by decide⟩, ⟨Kd.R_nil _ _ _ _ _⟩, HS0⟩
  case round =>
    obtain ⟨i, st, all, A, c, rfl, hi, rfl, HF, HA, HS⟩ := hrel
    clear HS0 HRR HSO
    have HCr := Aside0.mk (Kd.C_below HC.out HS.out.bel)
    by_cases hlt : i < L.length
    · have hi1 : (i : Int) < (L.length : Int) := by omega
      have hi0 : (0 : Int) ≤ (i : Int) := by omega
      have g2 : IntKind.i64.wrap ((i : Int) + 1) = ((i + 1 : Nat) : Int) := by rw [i64_w, wrap_id (by omega) (by omega)]; omega
      obtain ⟨adB, B1, d1, rfl, hx, hxd, hxC⟩ := at_row HCr.out i hlt
      have hrd : rdR L i = L[i] := by unfold rdR; simp [List.getD, List.getElem?_eq_getElem hlt]
      rw [hrd] at hx hxd hxC
      have hmem := List.getElem_mem hlt
      have hdrop : L.drop i = L[i] :: L.drop (i + 1) := (List.getElem_cons_drop (h := hlt)).symm
      have hF := HF.out
      rw [hdrop] at hF
      have HLA := Aside0.mk hF.2.2
      have HLW := Aside0.mk HS.out.bel.size
      have zz_ := hi1
      have hstep := fun W (hC : Kd.C (Kd.int .u8) W B1 L[i].length L[i]) => parse_Step.at_ st ⟨hF.2.1.1, hF.2.1.2.1, hF.2.1.2.2.1, hF.2.1.2.2.2⟩ B1 d1 L[i] W hC hxd (HBY.out _ hmem)
      have hok := stepR_ok (x := L[i]) hF.2.1
      have HXC := Aside0.mk hxC
      clear hrd hmem hdrop hxd hxC HF
      generalize L[i] = x at *
      unfold runP at hF
      obtain ⟨Q, hQ⟩ : ∃ Q, stepR st x = Q := ⟨_, rfl⟩
      rw [hQ] at hF hstep hok
      obtain ⟨t, told, e0⟩ := Q
      simp only at hF hok
      have HF2 := Aside0.mk hF.1
      have HOK := Aside0.mk hok
      clear hF hok hQ
      have z0 := (blk_cell HS.out.hs 0).trans (show _ = some (Value.int .i64 st.f0) from rfl)
      have z1 := (blk_cell HS.out.hs 1).trans (show _ = some (Value.string st.f1.f0) from rfl)
      have z2 := (blk_cell HS.out.hs 2).trans (show _ = some (Value.string st.f1.f1) from rfl)
      have z3 := (blk_cell HS.out.hs 3).trans (show _ = some (Value.int .u8 st.f1.f2) from rfl)
      have z4 := (blk_cell HS.out.hs 4).trans (show _ = some (Value.int .i64 st.f1.f3) from rfl)
      have z5 := (blk_cell HS.out.hs 5).trans (show _ = some (Value.int .i64 st.f1.f4) from rfl)
      have z6 := (blk_cell HS.out.hs 6).trans (show _ = some (Value.int .i64 st.f1.f5) from rfl)
      have z7 := (blk_cell HS.out.hs 7).trans (show _ = some (Value.int .i64 st.f1.f6) from rfl)
      have z8 := (blk_cell HS.out.hs 8).trans (show _ = some (Value.string st.f1.f7) from rfl)
      have z9 := (blk_cell HS.out.hs 9).trans (show _ = some (Value.int .i64 st.f2) from rfl)
      have z10 := (blk_cell HS.out.hs 10).trans (show _ = some (Value.int .i64 st.f3) from rfl)
      have z11 := (blk_cell HS.out.hs 11).trans (show _ = some (Value.string st.f4) from rfl)
      have z12 := (blk_cell HS.out.hs 12).trans (show _ = some (Value.string st.f5) from rfl)
      have z13 := (blk_cell HS.out.hs 13).trans (show _ = some (Value.string st.f6) from rfl)
      go_upto_region 6 with (go_at_call 28; (refine (hstep _ HXC.out).mono ?_); rintro e_ w1 ⟨A1, c1, rfl, hT1, hb_⟩; have HS1 := Aside0.mk ((HS.out.step hb_).step (below_alloc (Below.refl _ _) (.cells #[.int .i64 t.f0, .string t.f1.f0, .string t.f1.f1, .int .u8 t.f1.f2, .int .i64 t.f1.f3, .int .i64 t.f1.f4, .int .i64 t.f1.f5, .int .i64 t.f1.f6, .string t.f1.f7, .int .i64 t.f2, .int .i64 t.f3, .string t.f4, .string t.f5, .string t.f6] 49))); have HA1 := Aside0.mk (Kd.R_alloc (Kd.R_below HA.out hb_) (.cells #[.int .i64 t.f0, .string t.f1.f0, .string t.f1.f1, .int .u8 t.f1.f2, .int .i64 t.f1.f3, .int .i64 t.f1.f4, .int .i64 t.f1.f5, .int .i64 t.f1.f6, .string t.f1.f7, .int .i64 t.f2, .int .i64 t.f3, .string t.f4, .string t.f5, .string t.f6] 49)); have HT1 := Aside0.mk (Kd.R_alloc (Kd.R_lower hT1.out HS.out.bel.size) (.cells #[.int .i64 t.f0, .string t.f1.f0, .string t.f1.f1, .int .u8 t.f1.f2, .int .i64 t.f1.f3, .int .i64 t.f1.f4, .int .i64 t.f1.f5, .int .i64 t.f1.f6, .string t.f1.f7, .int .i64 t.f2, .int .i64 t.f3, .string t.f4, .string t.f5, .string t.f6] 49)); have HN1 := Aside0.mk (heap_alloc_new w1 (.cells #[.int .i64 t.f0, .string t.f1.f0, .string t.f1.f1, .int .u8 t.f1.f2, .int .i64 t.f1.f3, .int .i64 t.f1.f4, .int .i64 t.f1.f5, .int .i64 t.f1.f6, .string t.f1.f7, .int .i64 t.f2, .int .i64 t.f3, .string t.f4, .string t.f5, .string t.f6] 49)); have HLN := Aside0.mk (blk_lt (HS.out.step hb_).hs); clear hb_ hT1)
      obtain ⟨W2, hW2⟩ : ∃ W', w1.alloc (.cells #[.int .i64 t.f0, .string t.f1.f0, .string t.f1.f1, .int .u8 t.f1.f2, .int .i64 t.f1.f3, .int .i64 t.f1.f4, .int .i64 t.f1.f5, .int .i64 t.f1.f6, .string t.f1.f7, .int .i64 t.f2, .int .i64 t.f3, .string t.f4, .string t.f5, .string t.f6] 49) = W' := ⟨_, rfl⟩
      rw [hW2] at HS1 HA1 HT1 HN1 ⊢
      clear hW2
      obtain ⟨g, hg_⟩ : ∃ k, w1.heap.size = k := ⟨_, rfl⟩
      rw [hg_] at HN1 HLN ⊢
      have HGN := Aside0.mk (show w.heap.size ≠ g from by have h_ := HLN.out; omega)
      clear hg_ zz_
      by_cases h0 : e0 = 0
      · subst h0
        have b0 : ((0 : Int) != 0) = false := rfl
        go_upto_region 8 with (fail)
        refine region_calm2 ?_
        refine start_ (n := 6) (S := fun w' => w'.heap[g]? = some (.cells #[.int .i64 t.f0, .string t.f1.f0, .string t.f1.f1, .int .u8 t.f1.f2, .int .i64 t.f1.f3, .int .i64 t.f1.f4, .int .i64 t.f1.f5, .int .i64 t.f1.f6, .string t.f1.f7, .int .i64 t.f2, .int .i64 t.f3, .string t.f4, .string t.f5, .string t.f6] 49 (0, 0))) (ds := []) #[false, false, false, false, false, false] (by kernel_rfl) rfl rfl HN1.out (fun hHeld => ?_)
        refine take_ (i := 0) (N := some 34) (v := ?_) (a' := ?_) #[true, false, false, false, false, false] rfl rfl (by kernel_rfl) (fun _ _ _ h => h) (Or.inl ⟨by rfl, ?_⟩) hHeld ?_ ?_
        rotate_left
        · intro w' hS_
          have q0 := (blk_cell hS_ 0).trans (show _ = some (Value.int .i64 t.f0) from rfl)
          have q1 := (blk_cell hS_ 1).trans (show _ = some (Value.string t.f1.f0) from rfl)
          have q2 := (blk_cell hS_ 2).trans (show _ = some (Value.string t.f1.f1) from rfl)
          have q3 := (blk_cell hS_ 3).trans (show _ = some (Value.int .u8 t.f1.f2) from rfl)
          have q4 := (blk_cell hS_ 4).trans (show _ = some (Value.int .i64 t.f1.f3) from rfl)
          have q5 := (blk_cell hS_ 5).trans (show _ = some (Value.int .i64 t.f1.f4) from rfl)
          have q6 := (blk_cell hS_ 6).trans (show _ = some (Value.int .i64 t.f1.f5) from rfl)
          have q7 := (blk_cell hS_ 7).trans (show _ = some (Value.int .i64 t.f1.f6) from rfl)
          have q8 := (blk_cell hS_ 8).trans (show _ = some (Value.string t.f1.f7) from rfl)
          have q9 := (blk_cell hS_ 9).trans (show _ = some (Value.int .i64 t.f2) from rfl)
          have q10 := (blk_cell hS_ 10).trans (show _ = some (Value.int .i64 t.f3) from rfl)
          have q11 := (blk_cell hS_ 11).trans (show _ = some (Value.string t.f4) from rfl)
          have q12 := (blk_cell hS_ 12).trans (show _ = some (Value.string t.f5) from rfl)
          have q13 := (blk_cell hS_ 13).trans (show _ = some (Value.string t.f6) from rfl)
          go_simp
          with_reducible rfl
        rotate_left
        · aput
          rfl
        refine pure_ (i := 1) (N := some 35) (v := ?_) (a' := ?_) #[true, true, false, false, false, false] rfl rfl (by kernel_rfl) (fun _ _ _ h => h) (Or.inl ⟨by rfl, ?_⟩) ?_ ?_
        rotate_left
        · intro w'
          go_simp
          with_reducible rfl
        rotate_left
        · aput
          rfl
        refine pure_ (i := 2) (N := some 36) (v := ?_) (a' := ?_) #[true, true, true, false, false, false] rfl rfl (by kernel_rfl) (fun _ _ _ h => h) (Or.inl ⟨by rfl, ?_⟩) ?_ ?_
        rotate_left
        · intro w'
          go_simp
          with_reducible rfl
        rotate_left
        · aput
          rfl
        have HSd := Aside0.mk (HS1.out.step (below_drew (Below.refl _ _)))
        have HAd := Aside0.mk (Kd.R_drew HA1.out)
        have HTd := Aside0.mk (Kd.R_drew HT1.out)
        have HNd := Aside0.mk (blk_drew HN1.out)
        obtain ⟨V1, hV1⟩ : ∃ W', W2.drew = W' := ⟨_, rfl⟩
        rw [hV1] at HSd HAd HTd HNd hHeld ⊢
        clear hV1
        refine one_ (i := 3) (N := some 37) #[true, true, true, true, false, false] rfl rfl (by kernel_rfl) (by decide) (fun K hK => ?_)
        refine Kd.R_append_rows_step k45 (w0 := V1) w.heap.size (by rfl) (.tmp 35) (.tmp 36) 22 45 (.agg #[.int .i64 0, .string ⟨#[]⟩, .string ⟨#[]⟩, .int .u8 0, .int .i64 0, .int .i64 0, .int .i64 0, .int .i64 0, .string ⟨#[]⟩, .string ⟨#[]⟩]) 112 (by rfl) Tryz.underlying22 info_ev rfl (by decide) (by decide) _ all told A1 told.length c1 (fun _ => True) (fun _ => False) (by rfl) (by rfl) HAd.out (Kd.R_reads' HTd.out).2.2 (fun _ _ h => h) (fun _ h => h.elim) (fun _ _ => trivial) (Below.refl _ _) HSd.out.bel.size (by have h1 := HLA.out; have h2 := HOK.out.2; omega) ?_
        intro v1 w3 ho hb hg hat
        obtain ⟨A3, c3, rfl⟩ := Kd.R_slice ho
        have HS3 := Aside0.mk (RunAt.grown HSd.out hb hg (own_typed2 HAd.out HSd.out.hs (by decide)) (own_typed2 HAd.out HSd.out.ht (by decide)))
        have HN3 := Aside0.mk ((hg.block g (blk_lt HNd.out) (own_typed2 HAd.out HNd.out (by decide))).trans HNd.out)
        have HR3 := Aside0.mk ho
        clear ho hb hg hat
        refine hK.out _ _ HN3.out (fun hHeld => ?_)
        clear hK K
        refine norm_ (a' := ?_) ?_ ?_
        rotate_left
        · show Act.put _ (some 37) _ = _
          aput
          rfl
        have z0 := (blk_cell HS3.out.hs 0).trans (show _ = some (Value.int .i64 st.f0) from rfl)
        have y0 := blk_frozen HS3.out.hs 0
        have z1 := (blk_cell HS3.out.hs 1).trans (show _ = some (Value.string st.f1.f0) from rfl)
        have y1 := blk_frozen HS3.out.hs 1
        have z2 := (blk_cell HS3.out.hs 2).trans (show _ = some (Value.string st.f1.f1) from rfl)
        have y2 := blk_frozen HS3.out.hs 2
        have z3 := (blk_cell HS3.out.hs 3).trans (show _ = some (Value.int .u8 st.f1.f2) from rfl)
        have y3 := blk_frozen HS3.out.hs 3
        have z4 := (blk_cell HS3.out.hs 4).trans (show _ = some (Value.int .i64 st.f1.f3) from rfl)
        have y4 := blk_frozen HS3.out.hs 4
        have z5 := (blk_cell HS3.out.hs 5).trans (show _ = some (Value.int .i64 st.f1.f4) from rfl)
        have y5 := blk_frozen HS3.out.hs 5
        have z6 := (blk_cell HS3.out.hs 6).trans (show _ = some (Value.int .i64 st.f1.f5) from rfl)
        have y6 := blk_frozen HS3.out.hs 6
        have z7 := (blk_cell HS3.out.hs 7).trans (show _ = some (Value.int .i64 st.f1.f6) from rfl)
        have y7 := blk_frozen HS3.out.hs 7
        have z8 := (blk_cell HS3.out.hs 8).trans (show _ = some (Value.string st.f1.f7) from rfl)
        have y8 := blk_frozen HS3.out.hs 8
        have z9 := (blk_cell HS3.out.hs 9).trans (show _ = some (Value.int .i64 st.f2) from rfl)
        have y9 := blk_frozen HS3.out.hs 9
        have z10 := (blk_cell HS3.out.hs 10).trans (show _ = some (Value.int .i64 st.f3) from rfl)
        have y10 := blk_frozen HS3.out.hs 10
        have z11 := (blk_cell HS3.out.hs 11).trans (show _ = some (Value.string st.f4) from rfl)
        have y11 := blk_frozen HS3.out.hs 11
        have z12 := (blk_cell HS3.out.hs 12).trans (show _ = some (Value.string st.f5) from rfl)
        have y12 := blk_frozen HS3.out.hs 12
        have z13 := (blk_cell HS3.out.hs 13).trans (show _ = some (Value.string st.f6) from rfl)
        have y13 := blk_frozen HS3.out.hs 13
        refine one_ (i := 4) (N := none) #[true, true, true, true, true, false] rfl rfl (by kernel_rfl) (by decide) (fun K hK => ?_)
        rw [if_pos (by rfl)]
        go_simp
        clear z0 y0 z1 y1 z2 y2 z3 y3 z4 y4 z5 y5 z6 y6 z7 y7 z8 y8 z9 y9 z10 y10 z11 y11 z12 y12 z13 y13
        have HS4 := Aside0.mk (HS3.out.put t)
        have HN4 := Aside0.mk (far14 HN3.out (fun e_ => HGN.out e_.symm) t)
        have HR4 := Aside0.mk (other14 HR3.out HS3.out.hs (by decide) t)
        obtain ⟨V4, hV4⟩ : ∃ W', ((((((((((((((w3.setCell ⟨w.heap.size, 0, none⟩ (.int .i64 t.f0)).setCell ⟨w.heap.size, 1, none⟩ (.string t.f1.f0)).setCell ⟨w.heap.size, 2, none⟩ (.string t.f1.f1)).setCell ⟨w.heap.size, 3, none⟩ (.int .u8 t.f1.f2)).setCell ⟨w.heap.size, 4, none⟩ (.int .i64 t.f1.f3)).setCell ⟨w.heap.size, 5, none⟩ (.int .i64 t.f1.f4)).setCell ⟨w.heap.size, 6, none⟩ (.int .i64 t.f1.f5)).setCell ⟨w.heap.size, 7, none⟩ (.int .i64 t.f1.f6)).setCell ⟨w.heap.size, 8, none⟩ (.string t.f1.f7)).setCell ⟨w.heap.size, 9, none⟩ (.int .i64 t.f2)).setCell ⟨w.heap.size, 10, none⟩ (.int .i64 t.f3)).setCell ⟨w.heap.size, 11, none⟩ (.string t.f4)).setCell ⟨w.heap.size, 12, none⟩ (.string t.f5)).setCell ⟨w.heap.size, 13, none⟩ (.string t.f6)) = W' := ⟨_, rfl⟩
        rw [hV4] at HS4 HN4 HR4 ⊢
        clear hV4
        refine hK.out _ _ HN4.out (fun hHeld => ?_)
        clear hK K
        refine pure_ (i := 5) (N := some 8) (v := ?_) (a' := ?_) #[true, true, true, true, true, true] rfl rfl (by kernel_rfl) (fun _ _ _ h => h) (Or.inl ⟨by rfl, ?_⟩) ?_ ?_
        rotate_left
        · intro w'
          go_simp
          with_reducible rfl
        rotate_left
        · aput
          rfl
        refine done_ (by kernel_rfl) ?_
        simp only [calm2]
        have hF := HF2.out
        rw [if_pos rfl] at hF
        clear HF2
        have q0 := (blk_cell HS4.out.hs 0).trans (show _ = some (Value.int .i64 t.f0) from rfl)
        by_cases h5 : t.f0 = 5
        · have b5 : (t.f0 == 5) = true := beq_iff_eq.2 h5
          rw [if_pos h5] at hF
          subst hF
          clear h5 q0
          have z0 := (blk_cell HS4.out.hs 0).trans (show _ = some (Value.int .i64 t.f0) from rfl)
          have z1 := (blk_cell HS4.out.hs 1).trans (show _ = some (Value.string t.f1.f0) from rfl)
          have z2 := (blk_cell HS4.out.hs 2).trans (show _ = some (Value.string t.f1.f1) from rfl)
          have z3 := (blk_cell HS4.out.hs 3).trans (show _ = some (Value.int .u8 t.f1.f2) from rfl)
          have z4 := (blk_cell HS4.out.hs 4).trans (show _ = some (Value.int .i64 t.f1.f3) from rfl)
          have z5 := (blk_cell HS4.out.hs 5).trans (show _ = some (Value.int .i64 t.f1.f4) from rfl)
          have z6 := (blk_cell HS4.out.hs 6).trans (show _ = some (Value.int .i64 t.f1.f5) from rfl)
          have z7 := (blk_cell HS4.out.hs 7).trans (show _ = some (Value.int .i64 t.f1.f6) from rfl)
          have z8 := (blk_cell HS4.out.hs 8).trans (show _ = some (Value.string t.f1.f7) from rfl)
          have z9 := (blk_cell HS4.out.hs 9).trans (show _ = some (Value.int .i64 t.f2) from rfl)
          have z10 := (blk_cell HS4.out.hs 10).trans (show _ = some (Value.int .i64 t.f3) from rfl)
          have z11 := (blk_cell HS4.out.hs 11).trans (show _ = some (Value.string t.f4) from rfl)
          have z12 := (blk_cell HS4.out.hs 12).trans (show _ = some (Value.string t.f5) from rfl)
          have z13 := (blk_cell HS4.out.hs 13).trans (show _ = some (Value.string t.f6) from rfl)
          have x0 := (blk_cell HS4.out.ht 0).trans (show _ = some (Value.int .i64 0) from rfl)
          have x1 := (blk_cell HS4.out.ht 1).trans (show _ = some (Value.string ⟨#[]⟩) from rfl)
          have x2 := (blk_cell HS4.out.ht 2).trans (show _ = some (Value.string ⟨#[]⟩) from rfl)
          have x3 := (blk_cell HS4.out.ht 3).trans (show _ = some (Value.int .u8 0) from rfl)
          have x4 := (blk_cell HS4.out.ht 4).trans (show _ = some (Value.int .i64 0) from rfl)
          have x5 := (blk_cell HS4.out.ht 5).trans (show _ = some (Value.int .i64 0) from rfl)
          have x6 := (blk_cell HS4.out.ht 6).trans (show _ = some (Value.int .i64 0) from rfl)
          have x7 := (blk_cell HS4.out.ht 7).trans (show _ = some (Value.int .i64 0) from rfl)
          have x8 := (blk_cell HS4.out.ht 8).trans (show _ = some (Value.string ⟨#[]⟩) from rfl)
          have x9 := (blk_cell HS4.out.ht 9).trans (show _ = some (Value.int .i64 0) from rfl)
          have x10 := (blk_cell HS4.out.ht 10).trans (show _ = some (Value.int .i64 0) from rfl)
          have x11 := (blk_cell HS4.out.ht 11).trans (show _ = some (Value.string ⟨#[]⟩) from rfl)
          have x12 := (blk_cell HS4.out.ht 12).trans (show _ = some (Value.string ⟨#[]⟩) from rfl)
          have x13 := (blk_cell HS4.out.ht 13).trans (show _ = some (Value.string ⟨#[]⟩) from rfl)
          have y0 := blk_frozen HS4.out.ht 0
          have y1 := blk_frozen HS4.out.ht 1
          have y2 := blk_frozen HS4.out.ht 2
          have y3 := blk_frozen HS4.out.ht 3
          have y4 := blk_frozen HS4.out.ht 4
          have y5 := blk_frozen HS4.out.ht 5
          have y6 := blk_frozen HS4.out.ht 6
          have y7 := blk_frozen HS4.out.ht 7
          have y8 := blk_frozen HS4.out.ht 8
          have y9 := blk_frozen HS4.out.ht 9
          have y10 := blk_frozen HS4.out.ht 10
          have y11 := blk_frozen HS4.out.ht 11
          have y12 := blk_frozen HS4.out.ht 12
          have y13 := blk_frozen HS4.out.ht 13
          go_wp2_with (fail)
          refine bodyPost_ret (results_list (rs := [.cell 4 49, .tmp 5, .tmp 6, .tmp 7]) rfl (by simp) (.cell (w.heap.size + 1) 49 #[.int .i64 t.f0, .string t.f1.f0, .string t.f1.f1, .int .u8 t.f1.f2, .int .i64 t.f1.f3, .int .i64 t.f1.f4, .int .i64 t.f1.f5, .int .i64 t.f1.f6, .string t.f1.f7, .int .i64 t.f2, .int .i64 t.f3, .string t.f4, .string t.f5, .string t.f6] (0, 0) _ rfl (RunAt.out HS4.out t).1 Tryz.underlying49 rfl st_size (.tmp (.tmp (.tmp .nil))))) rfl ?_
          exact ⟨A3, c3, by simp, ⟨other14 HR4.out HS4.out.ht (by decide) t⟩, (RunAt.out HS4.out t).2⟩
        · have b5 : (t.f0 == 5) = false := beq_eq_false_iff_ne.2 h5
          rw [if_neg h5] at hF
          clear h5
          go_wp2_with (fail)
          go_roundw
          case rel => exact ⟨i + 1, t, all ++ told, A3, c3, by go_num, by omega, by rw [List.length_append], ⟨hF, HOK.out.1, by have h1 := HOK.out.2; have h2 := HLA.out; rw [List.length_append]; omega⟩, HR4, HS4⟩
          case measure => simp [intOf]; omega
      · have b0 : (e0 != 0) = true := by simp only [bne, beq_eq_false_iff_ne.2 h0]; rfl
        have hR := HF2.out
        rw [if_neg h0] at hR
        subst hR
        clear h0
        have z0 := (blk_cell HS1.out.hs 0).trans (show _ = some (Value.int .i64 st.f0) from rfl)
        have z1 := (blk_cell HS1.out.hs 1).trans (show _ = some (Value.string st.f1.f0) from rfl)
        have z2 := (blk_cell HS1.out.hs 2).trans (show _ = some (Value.string st.f1.f1) from rfl)
        have z3 := (blk_cell HS1.out.hs 3).trans (show _ = some (Value.int .u8 st.f1.f2) from rfl)
        have z4 := (blk_cell HS1.out.hs 4).trans (show _ = some (Value.int .i64 st.f1.f3) from rfl)
        have z5 := (blk_cell HS1.out.hs 5).trans (show _ = some (Value.int .i64 st.f1.f4) from rfl)
        have z6 := (blk_cell HS1.out.hs 6).trans (show _ = some (Value.int .i64 st.f1.f5) from rfl)
        have z7 := (blk_cell HS1.out.hs 7).trans (show _ = some (Value.int .i64 st.f1.f6) from rfl)
        have z8 := (blk_cell HS1.out.hs 8).trans (show _ = some (Value.string st.f1.f7) from rfl)
        have z9 := (blk_cell HS1.out.hs 9).trans (show _ = some (Value.int .i64 st.f2) from rfl)
        have z10 := (blk_cell HS1.out.hs 10).trans (show _ = some (Value.int .i64 st.f3) from rfl)
        have z11 := (blk_cell HS1.out.hs 11).trans (show _ = some (Value.string st.f4) from rfl)
        have z12 := (blk_cell HS1.out.hs 12).trans (show _ = some (Value.string st.f5) from rfl)
        have z13 := (blk_cell HS1.out.hs 13).trans (show _ = some (Value.string st.f6) from rfl)
        have x0 := (blk_cell HS1.out.ht 0).trans (show _ = some (Value.int .i64 0) from rfl)
        have x1 := (blk_cell HS1.out.ht 1).trans (show _ = some (Value.string ⟨#[]⟩) from rfl)
        have x2 := (blk_cell HS1.out.ht 2).trans (show _ = some (Value.string ⟨#[]⟩) from rfl)
        have x3 := (blk_cell HS1.out.ht 3).trans (show _ = some (Value.int .u8 0) from rfl)
        have x4 := (blk_cell HS1.out.ht 4).trans (show _ = some (Value.int .i64 0) from rfl)
        have x5 := (blk_cell HS1.out.ht 5).trans (show _ = some (Value.int .i64 0) from rfl)
        have x6 := (blk_cell HS1.out.ht 6).trans (show _ = some (Value.int .i64 0) from rfl)
        have x7 := (blk_cell HS1.out.ht 7).trans (show _ = some (Value.int .i64 0) from rfl)
        have x8 := (blk_cell HS1.out.ht 8).trans (show _ = some (Value.string ⟨#[]⟩) from rfl)
        have x9 := (blk_cell HS1.out.ht 9).trans (show _ = some (Value.int .i64 0) from rfl)
        have x10 := (blk_cell HS1.out.ht 10).trans (show _ = some (Value.int .i64 0) from rfl)
        have x11 := (blk_cell HS1.out.ht 11).trans (show _ = some (Value.string ⟨#[]⟩) from rfl)
        have x12 := (blk_cell HS1.out.ht 12).trans (show _ = some (Value.string ⟨#[]⟩) from rfl)
        have x13 := (blk_cell HS1.out.ht 13).trans (show _ = some (Value.string ⟨#[]⟩) from rfl)
        have y0 := blk_frozen HS1.out.ht 0
        have y1 := blk_frozen HS1.out.ht 1
        have y2 := blk_frozen HS1.out.ht 2
        have y3 := blk_frozen HS1.out.ht 3
        have y4 := blk_frozen HS1.out.ht 4
        have y5 := blk_frozen HS1.out.ht 5
        have y6 := blk_frozen HS1.out.ht 6
        have y7 := blk_frozen HS1.out.ht 7
        have y8 := blk_frozen HS1.out.ht 8
        have y9 := blk_frozen HS1.out.ht 9
        have y10 := blk_frozen HS1.out.ht 10
        have y11 := blk_frozen HS1.out.ht 11
        have y12 := blk_frozen HS1.out.ht 12
        have y13 := blk_frozen HS1.out.ht 13
        go_wp2_with (fail)
        refine bodyPost_ret (results_list (rs := [.cell 4 49, .tmp 5, .tmp 6, .tmp 7]) rfl (by simp) (.cell (w.heap.size + 1) 49 #[.int .i64 st.f0, .string st.f1.f0, .string st.f1.f1, .int .u8 st.f1.f2, .int .i64 st.f1.f3, .int .i64 st.f1.f4, .int .i64 st.f1.f5, .int .i64 st.f1.f6, .string st.f1.f7, .int .i64 st.f2, .int .i64 st.f3, .string st.f4, .string st.f5, .string st.f6] (0, 0) _ rfl (RunAt.out HS1.out st).1 Tryz.underlying49 rfl st_size (.tmp (.tmp (.tmp .nil))))) rfl ?_
        exact ⟨A, c, rfl, ⟨other14 HA1.out HS1.out.ht (by decide) st⟩, (RunAt.out HS1.out st).2⟩
    · obtain rfl : i = L.length := by omega
      have hi1 : decide ((L.length : Int) < (L.length : Int)) = false := decide_eq_false (by omega)
      have hR := HF.out.1
      rw [List.drop_length] at hR
      unfold runP at hR
      subst hR
      have z0 := (blk_cell HS.out.hs 0).trans (show _ = some (Value.int .i64 st.f0) from rfl)
      have z1 := (blk_cell HS.out.hs 1).trans (show _ = some (Value.string st.f1.f0) from rfl)
      have z2 := (blk_cell HS.out.hs 2).trans (show _ = some (Value.string st.f1.f1) from rfl)
      have z3 := (blk_cell HS.out.hs 3).trans (show _ = some (Value.int .u8 st.f1.f2) from rfl)
      have z4 := (blk_cell HS.out.hs 4).trans (show _ = some (Value.int .i64 st.f1.f3) from rfl)
      have z5 := (blk_cell HS.out.hs 5).trans (show _ = some (Value.int .i64 st.f1.f4) from rfl)
      have z6 := (blk_cell HS.out.hs 6).trans (show _ = some (Value.int .i64 st.f1.f5) from rfl)
      have z7 := (blk_cell HS.out.hs 7).trans (show _ = some (Value.int .i64 st.f1.f6) from rfl)
      have z8 := (blk_cell HS.out.hs 8).trans (show _ = some (Value.string st.f1.f7) from rfl)
      have z9 := (blk_cell HS.out.hs 9).trans (show _ = some (Value.int .i64 st.f2) from rfl)
      have z10 := (blk_cell HS.out.hs 10).trans (show _ = some (Value.int .i64 st.f3) from rfl)
      have z11 := (blk_cell HS.out.hs 11).trans (show _ = some (Value.string st.f4) from rfl)
      have z12 := (blk_cell HS.out.hs 12).trans (show _ = some (Value.string st.f5) from rfl)
      have z13 := (blk_cell HS.out.hs 13).trans (show _ = some (Value.string st.f6) from rfl)
      have x0 := (blk_cell HS.out.ht 0).trans (show _ = some (Value.int .i64 0) from rfl)
      have x1 := (blk_cell HS.out.ht 1).trans (show _ = some (Value.string ⟨#[]⟩) from rfl)
      have x2 := (blk_cell HS.out.ht 2).trans (show _ = some (Value.string ⟨#[]⟩) from rfl)
      have x3 := (blk_cell HS.out.ht 3).trans (show _ = some (Value.int .u8 0) from rfl)
      have x4 := (blk_cell HS.out.ht 4).trans (show _ = some (Value.int .i64 0) from rfl)
      have x5 := (blk_cell HS.out.ht 5).trans (show _ = some (Value.int .i64 0) from rfl)
      have x6 := (blk_cell HS.out.ht 6).trans (show _ = some (Value.int .i64 0) from rfl)
      have x7 := (blk_cell HS.out.ht 7).trans (show _ = some (Value.int .i64 0) from rfl)
      have x8 := (blk_cell HS.out.ht 8).trans (show _ = some (Value.string ⟨#[]⟩) from rfl)
      have x9 := (blk_cell HS.out.ht 9).trans (show _ = some (Value.int .i64 0) from rfl)
      have x10 := (blk_cell HS.out.ht 10).trans (show _ = some (Value.int .i64 0) from rfl)
      have x11 := (blk_cell HS.out.ht 11).trans (show _ = some (Value.string ⟨#[]⟩) from rfl)
      have x12 := (blk_cell HS.out.ht 12).trans (show _ = some (Value.string ⟨#[]⟩) from rfl)
      have x13 := (blk_cell HS.out.ht 13).trans (show _ = some (Value.string ⟨#[]⟩) from rfl)
      have y0 := blk_frozen HS.out.ht 0
      have y1 := blk_frozen HS.out.ht 1
      have y2 := blk_frozen HS.out.ht 2
      have y3 := blk_frozen HS.out.ht 3
      have y4 := blk_frozen HS.out.ht 4
      have y5 := blk_frozen HS.out.ht 5
      have y6 := blk_frozen HS.out.ht 6
      have y7 := blk_frozen HS.out.ht 7
      have y8 := blk_frozen HS.out.ht 8
      have y9 := blk_frozen HS.out.ht 9
      have y10 := blk_frozen HS.out.ht 10
      have y11 := blk_frozen HS.out.ht 11
      have y12 := blk_frozen HS.out.ht 12
      have y13 := blk_frozen HS.out.ht 13
      clear hlt
      go_wp2_with (fail)
      refine bodyPost_ret (results_list (rs := [.cell 4 49, .tmp 5, .tmp 6, .tmp 7]) rfl (by simp) (.cell (w.heap.size + 1) 49 #[.int .i64 st.f0, .string st.f1.f0, .string st.f1.f1, .int .u8 st.f1.f2, .int .i64 st.f1.f3, .int .i64 st.f1.f4, .int .i64 st.f1.f5, .int .i64 st.f1.f6, .string st.f1.f7, .int .i64 st.f2, .int .i64 st.f3, .string st.f4, .string st.f5, .string st.f6] (0, 0) _ rfl (RunAt.out HS.out st).1 Tryz.underlying49 rfl st_size (.tmp (.tmp (.tmp .nil))))) rfl ?_
      exact ⟨A, c, rfl, ⟨other14 HA.out HS.out.ht (by decide) st⟩, (RunAt.out HS.out st).2⟩
end Go.Proofs.YtpedagpcblnnhaaGreat.X
