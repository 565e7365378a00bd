import Derived.Test.YtpedagpcblnnhaaGreatXK
import Derived.Test.YtpedagpcblnnhaaGreatXGget
import Derived.Test.YtpedagpcblnnhaaGreatXGheadGet
import Derived.Test.YtpedagpcblnnhaaGreatXGnum
import Derived.Test.YtpedagpcblnnhaaGreatXGpa
import Derived.Test.YtpedagpcblnnhaaGreatXGpd
import Derived.Test.YtpedagpcblnnhaaGreatXGpmay
import Derived.Test.YtpedagpcblnnhaaGreatYAll
import Derived.Test.YtpedagpcblnnhaaGreatP04g
import Derived.Test.YtpedagpcblnnhaaGreatPGA
import Derived.Test.YtpedagpcblnnhaaGreatPGE
import Derived.Deep.RegionHeld3
import Derived.Laws.EntriesVeiled
import Derived.Laws.Pointers
import Derived.Recover
import Derived.WalkSpells
namespace Go.Proofs.YtpedagpcblnnhaaGreat.X
open Go.RowKit Go.Proofs.YtpedagpcblnnhaaGreatW.PrintWords Go.Proofs.YtpedagpcblnnhaaGreatW.PrintLast Go.Proofs.YtpedagpcblnnhaaGreatW.PrintMore
attribute [local go_sem] max2_int min2_int max_two min_two
set_option linter.unusedVariables false
set_option linter.unusedSimpArgs false
section
open Go.Proofs.YtpedagpcblnnhaaGreatY
set_option maxRecDepth 100000
theorem set14 {S : Nat → Prop} {w W : World} {g : Nat} {t : Pst} (h : W.heap[g]? = some (.cells #[.int .i64 t.f0, .string t.f1.f0, .string t.f1.f1, .int .u8 t.f1.f2, .int .i64 t.f1.f3, .int .i64 t.f1.f4, .int .i64 t.f1.f5, .int .i64 t.f1.f6, .string t.f1.f7, .int .i64 t.f2, .int .i64 t.f3, .string t.f4, .string t.f5, .string t.f6] 49 (0, 0))) (hT : Turn S w W) (hg : S g) (s : Pst) : (((((((((((((((W.setCell ⟨g, 0, none⟩ (.int .i64 s.f0)).setCell ⟨g, 1, none⟩ (.string s.f1.f0)).setCell ⟨g, 2, none⟩ (.string s.f1.f1)).setCell ⟨g, 3, none⟩ (.int .u8 s.f1.f2)).setCell ⟨g, 4, none⟩ (.int .i64 s.f1.f3)).setCell ⟨g, 5, none⟩ (.int .i64 s.f1.f4)).setCell ⟨g, 6, none⟩ (.int .i64 s.f1.f5)).setCell ⟨g, 7, none⟩ (.int .i64 s.f1.f6)).setCell ⟨g, 8, none⟩ (.string s.f1.f7)).setCell ⟨g, 9, none⟩ (.int .i64 s.f2)).setCell ⟨g, 10, none⟩ (.int .i64 s.f3)).setCell ⟨g, 11, none⟩ (.string s.f4)).setCell ⟨g, 12, none⟩ (.string s.f5)).setCell ⟨g, 13, none⟩ (.string s.f6))).heap[g]? = some (.cells #[.int .i64 s.f0, .string s.f1.f0, .string s.f1.f1, .int .u8 s.f1.f2, .int .i64 s.f1.f3, .int .i64 s.f1.f4, .int .i64 s.f1.f5, .int .i64 s.f1.f6, .string s.f1.f7, .int .i64 s.f2, .int .i64 s.f3, .string s.f4, .string s.f5, .string s.f6] 49 (0, 0)) ∧ Turn S w (((((((((((((((W.setCell ⟨g, 0, none⟩ (.int .i64 s.f0)).setCell ⟨g, 1, none⟩ (.string s.f1.f0)).setCell ⟨g, 2, none⟩ (.string s.f1.f1)).setCell ⟨g, 3, none⟩ (.int .u8 s.f1.f2)).setCell ⟨g, 4, none⟩ (.int .i64 s.f1.f3)).setCell ⟨g, 5, none⟩ (.int .i64 s.f1.f4)).setCell ⟨g, 6, none⟩ (.int .i64 s.f1.f5)).setCell ⟨g, 7, none⟩ (.int .i64 s.f1.f6)).setCell ⟨g, 8, none⟩ (.string s.f1.f7)).setCell ⟨g, 9, none⟩ (.int .i64 s.f2)).setCell ⟨g, 10, none⟩ (.int .i64 s.f3)).setCell ⟨g, 11, none⟩ (.string s.f4)).setCell ⟨g, 12, none⟩ (.string s.f5)).setCell ⟨g, 13, none⟩ (.string s.f6))) := by
  refine ⟨(blk_set (blk_set (blk_set (blk_set (blk_set (blk_set (blk_set (blk_set (blk_set (blk_set (blk_set (blk_set (blk_set (blk_set (h) 0 (.int .i64 s.f0)) 1 (.string s.f1.f0)) 2 (.string s.f1.f1)) 3 (.int .u8 s.f1.f2)) 4 (.int .i64 s.f1.f3)) 5 (.int .i64 s.f1.f4)) 6 (.int .i64 s.f1.f5)) 7 (.int .i64 s.f1.f6)) 8 (.string s.f1.f7)) 9 (.int .i64 s.f2)) 10 (.int .i64 s.f3)) 11 (.string s.f4)) 12 (.string s.f5)) 13 (.string s.f6)).trans ?_, ((((((((((((((hT).trans (Turn.setCell _ (p := ⟨g, 0, none⟩) (.int .i64 s.f0) hg)).trans (Turn.setCell _ (p := ⟨g, 1, none⟩) (.string s.f1.f0) hg)).trans (Turn.setCell _ (p := ⟨g, 2, none⟩) (.string s.f1.f1) hg)).trans (Turn.setCell _ (p := ⟨g, 3, none⟩) (.int .u8 s.f1.f2) hg)).trans (Turn.setCell _ (p := ⟨g, 4, none⟩) (.int .i64 s.f1.f3) hg)).trans (Turn.setCell _ (p := ⟨g, 5, none⟩) (.int .i64 s.f1.f4) hg)).trans (Turn.setCell _ (p := ⟨g, 6, none⟩) (.int .i64 s.f1.f5) hg)).trans (Turn.setCell _ (p := ⟨g, 7, none⟩) (.int .i64 s.f1.f6) hg)).trans (Turn.setCell _ (p := ⟨g, 8, none⟩) (.string s.f1.f7) hg)).trans (Turn.setCell _ (p := ⟨g, 9, none⟩) (.int .i64 s.f2) hg)).trans (Turn.setCell _ (p := ⟨g, 10, none⟩) (.int .i64 s.f3) hg)).trans (Turn.setCell _ (p := ⟨g, 11, none⟩) (.string s.f4) hg)).trans (Turn.setCell _ (p := ⟨g, 12, none⟩) (.string s.f5) hg)).trans (Turn.setCell _ (p := ⟨g, 13, none⟩) (.string s.f6) hg)⟩
  simp only [List.setIfInBounds_toArray, List.set_cons_zero, List.set_cons_succ]
theorem far14 {W : World} {g i : Nat} {cs : Array Value} {T : TypeId} (h : W.heap[i]? = some (.cells cs T (0, 0))) (hp : i ≠ g) (s : Pst) : (((((((((((((((W.setCell ⟨g, 0, none⟩ (.int .i64 s.f0)).setCell ⟨g, 1, none⟩ (.string s.f1.f0)).setCell ⟨g, 2, none⟩ (.string s.f1.f1)).setCell ⟨g, 3, none⟩ (.int .u8 s.f1.f2)).setCell ⟨g, 4, none⟩ (.int .i64 s.f1.f3)).setCell ⟨g, 5, none⟩ (.int .i64 s.f1.f4)).setCell ⟨g, 6, none⟩ (.int .i64 s.f1.f5)).setCell ⟨g, 7, none⟩ (.int .i64 s.f1.f6)).setCell ⟨g, 8, none⟩ (.string s.f1.f7)).setCell ⟨g, 9, none⟩ (.int .i64 s.f2)).setCell ⟨g, 10, none⟩ (.int .i64 s.f3)).setCell ⟨g, 11, none⟩ (.string s.f4)).setCell ⟨g, 12, none⟩ (.string s.f5)).setCell ⟨g, 13, none⟩ (.string s.f6))).heap[i]? = some (.cells cs T (0, 0)) :=
  blk_far (blk_far (blk_far (blk_far (blk_far (blk_far (blk_far (blk_far (blk_far (blk_far (blk_far (blk_far (blk_far (blk_far (h) (p := ⟨g, 0, none⟩) hp (.int .i64 s.f0)) (p := ⟨g, 1, none⟩) hp (.string s.f1.f0)) (p := ⟨g, 2, none⟩) hp (.string s.f1.f1)) (p := ⟨g, 3, none⟩) hp (.int .u8 s.f1.f2)) (p := ⟨g, 4, none⟩) hp (.int .i64 s.f1.f3)) (p := ⟨g, 5, none⟩) hp (.int .i64 s.f1.f4)) (p := ⟨g, 6, none⟩) hp (.int .i64 s.f1.f5)) (p := ⟨g, 7, none⟩) hp (.int .i64 s.f1.f6)) (p := ⟨g, 8, none⟩) hp (.string s.f1.f7)) (p := ⟨g, 9, none⟩) hp (.int .i64 s.f2)) (p := ⟨g, 10, none⟩) hp (.int .i64 s.f3)) (p := ⟨g, 11, none⟩) hp (.string s.f4)) (p := ⟨g, 12, none⟩) hp (.string s.f5)) (p := ⟨g, 13, none⟩) hp (.string s.f6)
set_option maxHeartbeats 3200000 in
theorem step1_panics (p0 p1 p2 p3 : Nat) (s t : Pst) (k k0 : Int) (v0 : Value) (older : List PanicEntry) (w : World) (h0 : w.heap[p0]? = some (.cells #[.int .i64 s.f0, .string s.f1.f0, .string s.f1.f1, .int .u8 s.f1.f2, .int .i64 s.f1.f3, .int .i64 s.f1.f4, .int .i64 s.f1.f5, .int .i64 s.f1.f6, .string s.f1.f7, .int .i64 s.f2, .int .i64 s.f3, .string s.f4, .string s.f5, .string s.f6] 49 (0, 0))) (h1 : w.heap[p1]? = some (.cells #[.int .i64 t.f0, .string t.f1.f0, .string t.f1.f1, .int .u8 t.f1.f2, .int .i64 t.f1.f3, .int .i64 t.f1.f4, .int .i64 t.f1.f5, .int .i64 t.f1.f6, .string t.f1.f7, .int .i64 t.f2, .int .i64 t.f3, .string t.f4, .string t.f5, .string t.f6] 49 (0, 0))) (h2 : w.heap[p2]? = some (.cells #[v0] 22 (0, 0))) (h3 : w.heap[p3]? = some (.cells #[.int .i64 k0] 30 (0, 0))) (hne : p1 ≠ p2 ∧ p1 ≠ p3 ∧ p2 ≠ p3 ∧ p0 ≠ p1 ∧ p0 ≠ p2 ∧ p0 ≠ p3) :
    CallsD Tryz.prog 35 #[.pointer (some ⟨p0, 0, none⟩), .pointer (some ⟨p1, 0, none⟩), .pointer (some ⟨p2, 0, none⟩), .pointer (some ⟨p3, 0, none⟩)] (.panicking ({ v := .iface 67 (.agg #[.int .i64 k]), recovered := false } :: older)) w fun e u' w' =>
      e = .returned (.tuple #[]) ∧ u' = .panicking ({ v := .iface 67 (.agg #[.int .i64 k]), recovered := true } :: older) ∧ Turn (fun i => i = p1 ∨ i = p2 ∨ i = p3) w w' ∧ w'.heap[p1]? = some (.cells #[.int .i64 s.f0, .string s.f1.f0, .string s.f1.f1, .int .u8 s.f1.f2, .int .i64 s.f1.f3, .int .i64 s.f1.f4, .int .i64 s.f1.f5, .int .i64 s.f1.f6, .string s.f1.f7, .int .i64 s.f2, .int .i64 s.f3, .string s.f4, .string s.f5, .string s.f6] 49 (0, 0)) ∧ w'.heap[p2]? = some (.cells #[.slice none 0 0] 22 (0, 0)) ∧ w'.heap[p3]? = some (.cells #[.int .i64 k] 30 (0, 0)) := by
  have hta : ∀ W : World, (Instr.typeAssert (.iface 67 (.agg #[.int .i64 k])) 20 67 false).run Tryz.prog W = .ok (.agg #[.int .i64 k]) W := fun W => by kernel_rfl
  have hfl : ∀ W : World, (Instr.field 67 (.agg #[.int .i64 k]) 0).run Tryz.prog W = .ok (.int .i64 k) W := fun W => by kernel_rfl
  refine callsD_of_wpS Tryz.func35 rfl fun c₀ cs hu => ?_
  apply wpS_seq
  apply wpS_region
  simp [wpOpsS, go_sem, recoverD, hu, Tryz.ntmps35, Exit.thenS]
  apply wpS_seq
  apply wpS_region
  simp [wpOpsS, go_sem, Exit.thenS]
  refine wpS_cond (t := true) (by simp [Act.eval, Array.replicate]) ?_
  simp only [if_true]
  refine wpS_of_wp ?_
  show Code.wp _ _ _ { tmps := #[.pointer (some ⟨p0, 0, none⟩), .pointer (some ⟨p1, 0, none⟩), .pointer (some ⟨p2, 0, none⟩), .pointer (some ⟨p3, 0, none⟩), .iface 67 (.agg #[.int .i64 k]), .iface 67 (.agg #[.int .i64 k]), .iface 67 (.agg #[.int .i64 k]), .bool true, undef, undef, undef, undef], defers := [] } w
  have q0 := (blk_cell h0 0).trans (show _ = some (Value.int .i64 s.f0) from rfl)
  have q1 := (blk_cell h0 1).trans (show _ = some (Value.string s.f1.f0) from rfl)
  have q2 := (blk_cell h0 2).trans (show _ = some (Value.string s.f1.f1) from rfl)
  have q3 := (blk_cell h0 3).trans (show _ = some (Value.int .u8 s.f1.f2) from rfl)
  have q4 := (blk_cell h0 4).trans (show _ = some (Value.int .i64 s.f1.f3) from rfl)
  have q5 := (blk_cell h0 5).trans (show _ = some (Value.int .i64 s.f1.f4) from rfl)
  have q6 := (blk_cell h0 6).trans (show _ = some (Value.int .i64 s.f1.f5) from rfl)
  have q7 := (blk_cell h0 7).trans (show _ = some (Value.int .i64 s.f1.f6) from rfl)
  have q8 := (blk_cell h0 8).trans (show _ = some (Value.string s.f1.f7) from rfl)
  have q9 := (blk_cell h0 9).trans (show _ = some (Value.int .i64 s.f2) from rfl)
  have q10 := (blk_cell h0 10).trans (show _ = some (Value.int .i64 s.f3) from rfl)
  have q11 := (blk_cell h0 11).trans (show _ = some (Value.string s.f4) from rfl)
  have q12 := (blk_cell h0 12).trans (show _ = some (Value.string s.f5) from rfl)
  have q13 := (blk_cell h0 13).trans (show _ = some (Value.string s.f6) from rfl)
  refine start_ (n := 7) (S := fun w' => w'.cell? ⟨p0, 0, none⟩ = some (.int .i64 s.f0) ∧ w'.cell? ⟨p0, 1, none⟩ = some (.string s.f1.f0) ∧ w'.cell? ⟨p0, 2, none⟩ = some (.string s.f1.f1) ∧ w'.cell? ⟨p0, 3, none⟩ = some (.int .u8 s.f1.f2) ∧ w'.cell? ⟨p0, 4, none⟩ = some (.int .i64 s.f1.f3) ∧ w'.cell? ⟨p0, 5, none⟩ = some (.int .i64 s.f1.f4) ∧ w'.cell? ⟨p0, 6, none⟩ = some (.int .i64 s.f1.f5) ∧ w'.cell? ⟨p0, 7, none⟩ = some (.int .i64 s.f1.f6) ∧ w'.cell? ⟨p0, 8, none⟩ = some (.string s.f1.f7) ∧ w'.cell? ⟨p0, 9, none⟩ = some (.int .i64 s.f2) ∧ w'.cell? ⟨p0, 10, none⟩ = some (.int .i64 s.f3) ∧ w'.cell? ⟨p0, 11, none⟩ = some (.string s.f4) ∧ w'.cell? ⟨p0, 12, none⟩ = some (.string s.f5) ∧ w'.cell? ⟨p0, 13, none⟩ = some (.string s.f6)) (ds := [4, 5, 6]) #[false, false, false, false, false, false, false] (by kernel_rfl) rfl rfl ⟨q0, q1, q2, q3, q4, q5, q6, q7, q8, q9, q10, q11, q12, q13⟩ (fun hHeld => ?_)
  refine take_ (i := 0) (N := some 8) (v := ?_) (a' := ?_) #[true, false, false, false, false, false, false] rfl rfl (by kernel_rfl) (fun _ _ _ h => h) (Or.inl ⟨by rfl, ?_⟩) hHeld ?_ ?_
  rotate_left
  · rintro w' ⟨s0, s1, s2, s3, s4, s5, s6, s7, s8, s9, s10, s11, s12, s13⟩
    go_simp
    with_reducible rfl
  rotate_left
  · aput
    rfl
  refine pure_ (i := 1) (N := some 9) (v := ?_) (a' := ?_) #[true, true, false, false, false, false, false] rfl rfl (by kernel_rfl) (fun _ _ _ h => h) (Or.inl ⟨by rfl, ?_⟩) ?_ ?_
  rotate_left
  · intro w'
    go_simp
    with_reducible rfl
  rotate_left
  · aput
    rfl
  refine pure_ (i := 2) (N := some 10) (v := ?_) (a' := ?_) #[true, true, true, false, false, false, false] rfl rfl (by kernel_rfl) (fun _ _ _ h => h) (Or.inl ⟨by rfl, ?_⟩) ?_ ?_
  rotate_left
  · intro w'
    go_simp
    with_reducible rfl
  rotate_left
  · aput
    rfl
  refine pure_ (i := 3) (N := some 11) (v := ?_) (a' := ?_) #[true, true, true, true, false, false, false] rfl rfl (by kernel_rfl) (fun _ _ _ h => h) (Or.inl ⟨by rfl, ?_⟩) ?_ ?_
  rotate_left
  · intro w'
    go_simp
    with_reducible rfl
  rotate_left
  · aput
    rfl
  clear q0 q1 q2 q3 q4 q5 q6 q7 q8 q9 q10 q11 q12 q13
  have H1 := Aside0.mk (blk_drew h1)
  have H2 := Aside0.mk (blk_drew h2)
  have H3 := Aside0.mk (blk_drew h3)
  have HT := Aside0.mk (Turn.drew (S := fun i => i = p1 ∨ i = p2 ∨ i = p3) w)
  obtain ⟨W1, hW1⟩ : ∃ W', w.drew = W' := ⟨_, rfl⟩
  rw [hW1] at H1 H2 H3 HT hHeld ⊢
  clear hW1 h1 h2 h3 h0
  have z0 := (blk_cell H1.out 0).trans (show _ = some (Value.int .i64 t.f0) from rfl)
  have y0 := blk_frozen H1.out 0
  have z1 := (blk_cell H1.out 1).trans (show _ = some (Value.string t.f1.f0) from rfl)
  have y1 := blk_frozen H1.out 1
  have z2 := (blk_cell H1.out 2).trans (show _ = some (Value.string t.f1.f1) from rfl)
  have y2 := blk_frozen H1.out 2
  have z3 := (blk_cell H1.out 3).trans (show _ = some (Value.int .u8 t.f1.f2) from rfl)
  have y3 := blk_frozen H1.out 3
  have z4 := (blk_cell H1.out 4).trans (show _ = some (Value.int .i64 t.f1.f3) from rfl)
  have y4 := blk_frozen H1.out 4
  have z5 := (blk_cell H1.out 5).trans (show _ = some (Value.int .i64 t.f1.f4) from rfl)
  have y5 := blk_frozen H1.out 5
  have z6 := (blk_cell H1.out 6).trans (show _ = some (Value.int .i64 t.f1.f5) from rfl)
  have y6 := blk_frozen H1.out 6
  have z7 := (blk_cell H1.out 7).trans (show _ = some (Value.int .i64 t.f1.f6) from rfl)
  have y7 := blk_frozen H1.out 7
  have z8 := (blk_cell H1.out 8).trans (show _ = some (Value.string t.f1.f7) from rfl)
  have y8 := blk_frozen H1.out 8
  have z9 := (blk_cell H1.out 9).trans (show _ = some (Value.int .i64 t.f2) from rfl)
  have y9 := blk_frozen H1.out 9
  have z10 := (blk_cell H1.out 10).trans (show _ = some (Value.int .i64 t.f3) from rfl)
  have y10 := blk_frozen H1.out 10
  have z11 := (blk_cell H1.out 11).trans (show _ = some (Value.string t.f4) from rfl)
  have y11 := blk_frozen H1.out 11
  have z12 := (blk_cell H1.out 12).trans (show _ = some (Value.string t.f5) from rfl)
  have y12 := blk_frozen H1.out 12
  have z13 := (blk_cell H1.out 13).trans (show _ = some (Value.string t.f6) from rfl)
  have y13 := blk_frozen H1.out 13
  refine last_ (i := 4) (N := none) #[true, true, true, true, true, false, false] rfl rfl (by kernel_rfl) (by decide) (fun K hK => ?_)
  rw [if_pos (by rfl)]
  go_simp
  refine hK.out _ _ ?_
  clear hK K
  clear z0 y0 z1 y1 z2 y2 z3 y3 z4 y4 z5 y5 z6 y6 z7 y7 z8 y8 z9 y9 z10 y10 z11 y11 z12 y12 z13 y13
  have S1 := set14 H1.out HT.out (.inl rfl) s
  have S1 := set14 (S := fun i => i = p1 ∨ i = p2 ∨ i = p3) H1.out HT.out (.inl rfl) s
  have S2 := far14 H2.out hne.1.symm s
  have S3 := far14 H3.out hne.2.1.symm s
  obtain ⟨W2, hW2⟩ : ∃ W', ((((((((((((((W1.setCell ⟨p1, 0, none⟩ (.int .i64 s.f0)).setCell ⟨p1, 1, none⟩ (.string s.f1.f0)).setCell ⟨p1, 2, none⟩ (.string s.f1.f1)).setCell ⟨p1, 3, none⟩ (.int .u8 s.f1.f2)).setCell ⟨p1, 4, none⟩ (.int .i64 s.f1.f3)).setCell ⟨p1, 5, none⟩ (.int .i64 s.f1.f4)).setCell ⟨p1, 6, none⟩ (.int .i64 s.f1.f5)).setCell ⟨p1, 7, none⟩ (.int .i64 s.f1.f6)).setCell ⟨p1, 8, none⟩ (.string s.f1.f7)).setCell ⟨p1, 9, none⟩ (.int .i64 s.f2)).setCell ⟨p1, 10, none⟩ (.int .i64 s.f3)).setCell ⟨p1, 11, none⟩ (.string s.f4)).setCell ⟨p1, 12, none⟩ (.string s.f5)).setCell ⟨p1, 13, none⟩ (.string s.f6)) = W' := ⟨_, rfl⟩
  rw [hW2] at S1 S2 S3 ⊢
  clear hW2 H1 H2 H3 HT
  have S2 := Aside0.mk S2
  have S3 := Aside0.mk S3
  have HS1 := Aside0.mk S1.1
  have HT2 := Aside0.mk S1.2
  clear S1
  have z := (blk_cell S2.out 0).trans (show _ = some v0 from rfl)
  have y := blk_frozen S2.out 0
  refine last_ (i := 5) (N := none) #[true, true, true, true, true, true, false] rfl rfl (by kernel_rfl) (by decide) (fun K hK => ?_)
  rw [if_pos (by rfl)]
  go_simp
  refine hK.out _ _ ?_
  clear hK K
  clear z y
  have U1 := Aside0.mk (blk_far HS1.out (p := ⟨p2, 0, none⟩) hne.1 (.slice none 0 0))
  have U2 := Aside0.mk (blk_put S2.out 0 (.slice none 0 0) rfl)
  have U3 := Aside0.mk (blk_far S3.out (p := ⟨p2, 0, none⟩) hne.2.2.1.symm (.slice none 0 0))
  have UT := Aside0.mk (HT2.out.trans (Turn.setCell W2 (p := ⟨p2, 0, none⟩) (.slice none 0 0) (.inr (.inl rfl))))
  obtain ⟨W3, hW3⟩ : ∃ W', W2.setCell ⟨p2, 0, none⟩ (.slice none 0 0) = W' := ⟨_, rfl⟩
  rw [hW3] at U1 U2 U3 UT ⊢
  clear hW3 S2 S3 HS1 HT2
  have z := (blk_cell U3.out 0).trans (show _ = some (Value.int .i64 k0) from rfl)
  have y := blk_frozen U3.out 0
  refine last_ (i := 6) (N := none) #[true, true, true, true, true, true, true] rfl rfl (by kernel_rfl) (by decide) (fun K hK => ?_)
  rw [if_pos (by rfl)]
  go_simp
  refine hK.out _ _ ?_
  clear hK K
  refine done_ (by kernel_rfl) ?_
  have X1 := blk_far U1.out (p := ⟨p3, 0, none⟩) hne.2.1 (.int .i64 k)
  have X2 := blk_far U2.out (p := ⟨p3, 0, none⟩) hne.2.2.1 (.int .i64 k)
  have X3 := blk_put U3.out 0 (.int .i64 k) rfl
  have XT := UT.out.trans (Turn.setCell W3 (p := ⟨p3, 0, none⟩) (.int .i64 k) (.inr (.inr rfl)))
  generalize W3.setCell ⟨p3, 0, none⟩ (.int .i64 k) = W4 at *
  clear U1 U2 U3 UT hta hfl
  simp only [bodyPostS]
  exact ⟨trivial, _, rfl, .tuple #[], by simp [results, Tryz.results35], rfl, rfl, XT, X1, X2, X3⟩
theorem step1_idle (p0 p1 p2 p3 : Nat) (w : World) :
    CallsD Tryz.prog 35 #[.pointer (some ⟨p0, 0, none⟩), .pointer (some ⟨p1, 0, none⟩), .pointer (some ⟨p2, 0, none⟩), .pointer (some ⟨p3, 0, none⟩)] .returning w fun e u' w' => e = .returned (.tuple #[]) ∧ u' = .returning ∧ w' = w := by
  refine callsD_of_wpS Tryz.func35 rfl fun c₀ cs hu => ?_
  apply wpS_seq
  apply wpS_region
  simp [wpOpsS, go_sem, recoverD, hu, Tryz.ntmps35, Exit.thenS]
  apply wpS_seq
  apply wpS_region
  simp [wpOpsS, go_sem, Exit.thenS]
  refine wpS_cond (t := false) (by simp [Act.eval, Array.replicate]) ?_
  simp only [Bool.false_eq_true, if_false]
  refine wpS_of_wp (wp_skip ?_)
  cases c₀
  simp_all [bodyPostS, results, Tryz.results35]
end
section
open Go.Proofs.YtpedagpcblnnhaaGreatY
set_option maxRecDepth 100000
theorem guess_sizes (x : List Int) : (guess x).f0.size ≤ 1000 ∧ (guess x).f1.size ≤ 1000 ∧ (guess x).f2.size ≤ 1000 := by
  have h : ∀ p n : Nat, n ≤ 155 → (strOfNums (uptoL (sub x p n))).size ≤ 1000 := fun p n hn => by
    rw [strOfNums_size]
    have h1 : (uptoL (sub x p n)).length ≤ (sub x p n).length := (List.takeWhile_sublist _).length_le
    have h2 : (sub x p n).length ≤ n := by unfold sub; rw [List.length_take]; omega
    omega
  unfold guess
  refine ⟨h _ _ (by decide), ?_, h _ _ (by decide)⟩
  simp only
  split
  · decide
  · exact h _ _ (by decide)
theorem headGet_sizes (x : List Int) : (headGet x).1.f0.size ≤ 1000 ∧ (headGet x).1.f1.size ≤ 1000 ∧ (headGet x).1.f2.size ≤ 1000 := by
  unfold headGet
  split
  · exact ⟨by decide, by decide, by decide⟩
  · split
    · exact ⟨by decide, by decide, by decide⟩
    · split
      · exact ⟨by decide, by decide, by decide⟩
      · split
        · exact guess_sizes x
        · exact ⟨by decide, by decide, by decide⟩
def headP (s : Pst) (x : List Int) (l : List Evt) : Except Int (Pst × List Evt) :=
  if (headGet x).2 = 4 then (if (noT s.f5 && noT s.f6) = true then .ok (⟨4, s.f1, s.f2, s.f3, s.f4, s.f5, s.f6⟩, l) else .error 2)
  else if (headGet x).2 = 0 then
    (if (headGet x).1.f8 = 76 then textP s (headGet x).1 s.f5 1 l
     else if (headGet x).1.f8 = 75 then textP s (headGet x).1 s.f6 2 l
     else if (headGet x).1.f8 = 77 ∨ (headGet x).1.f8 = 86 then .error 5
     else nodeP s (headGet x).1 l)
  else .error (headGet x).2
set_option maxHeartbeats 6400000 in
theorem phead.at_ (w0 : World) (b : Nat) (s : Pst) (l : List Evt) (A : Option Addr) (c : Nat) (B : Option Addr) (d : Nat) (x : List Int) (W : World) (hs : s.f5.size ≤ 1000 ∧ s.f6.size ≤ 1000) (hl : l.length ≤ 400) (G : PAt w0 b s l A c W) (hC : Kd.C (Kd.int .u8) W B x.length x) (hd : x.length ≤ d) (hx : x.length = 512) (hby : ∀ y ∈ x, 0 ≤ y ∧ y ≤ 255) :
    Calls Tryz.prog 38 #[.pointer (some ⟨b, 0, none⟩), .slice B x.length d] W fun e w' => PDone w0 b (headP s x l) e w' := by
  have HG := Aside0.mk G
  have HC := Aside0.mk hC
  have hz := headGet_sizes x
  obtain ⟨res, hres⟩ : ∃ res, headP s x l = res := ⟨_, rfl⟩
  rw [hres]
  unfold headP at hres
  obtain ⟨R, hR⟩ : ∃ R, headGet x = R := ⟨_, rfl⟩
  have hget := fun W hC => head_Get.at_ B d x W hC hd hby
  rw [hR] at hres hget hz
  obtain ⟨h, e0⟩ := R
  have hget : ∀ W, Kd.C (Kd.int .u8) W B x.length x → Calls Tryz.prog 59 #[.slice B x.length d] W fun e w' => e = .returned (.tuple #[.agg #[.string h.f0, .string h.f1, .string h.f2, .int .i64 h.f3, .int .i64 h.f4, .int .i64 h.f5, .int .i64 h.f6, .int .i64 h.f7, .int .u8 h.f8, .int .i64 h.f9, .int .i64 h.f10], .int .i64 e0]) ∧ Below W.heap.size W w' := hget
  simp only at hres hz
  have HSZ := Aside0.mk (And.intro hz hs)
  clear G hC hby hx hR hz hs
  go_enter Tryz.func38, Tryz.ntmps38
  go_upto_region 1 with (go_at_call 59; (refine (hget _ HC.out).mono ?_); rintro e_ w1 ⟨rfl, hb_⟩; have HG1 := Aside0.mk ((HG.out.step hb_).step (below_alloc (Below.refl _ _) (.cells #[.string h.f0, .string h.f1, .string h.f2, .int .i64 h.f3, .int .i64 h.f4, .int .i64 h.f5, .int .i64 h.f6, .int .i64 h.f7, .int .u8 h.f8, .int .i64 h.f9, .int .i64 h.f10] 83))); have HH1 := Aside0.mk (heap_alloc_new w1 (.cells #[.string h.f0, .string h.f1, .string h.f2, .int .i64 h.f3, .int .i64 h.f4, .int .i64 h.f5, .int .i64 h.f6, .int .i64 h.f7, .int .u8 h.f8, .int .i64 h.f9, .int .i64 h.f10] 83)); clear hb_)
  obtain ⟨W1, hW1⟩ : ∃ W', w1.alloc (.cells #[.string h.f0, .string h.f1, .string h.f2, .int .i64 h.f3, .int .i64 h.f4, .int .i64 h.f5, .int .i64 h.f6, .int .i64 h.f7, .int .u8 h.f8, .int .i64 h.f9, .int .i64 h.f10] 83) = W' := ⟨_, rfl⟩
  rw [hW1] at HG1 HH1 ⊢
  clear hW1
  obtain ⟨hb, hhb⟩ : ∃ k, w1.heap.size = k := ⟨_, rfl⟩
  rw [hhb] at HH1 ⊢
  clear hhb hget HG
  have z0 := (HG1.out.cell 0).trans (show _ = some (Value.int .i64 s.f0) from rfl)
  have z12 := (HG1.out.cell 12).trans (show _ = some (Value.string s.f5) from rfl)
  have z13 := (HG1.out.cell 13).trans (show _ = some (Value.string s.f6) from rfl)
  by_cases h4 : e0 = 4
  · rw [if_pos h4] at hres
    have b4 : (e0 == 4) = true := beq_iff_eq.2 h4
    clear h4
    obtain ⟨N, hN⟩ : ∃ N, noT s.f5 = N := ⟨_, rfl⟩
    obtain ⟨L, hL⟩ : ∃ L, noT s.f6 = L := ⟨_, rfl⟩
    rw [hN, hL] at hres
    have hN2 : (s.f5.toList == ([] : List UInt8)) = N := hN
    have hL2 : (s.f6.toList == ([] : List UInt8)) = L := hL
    clear hN hL
    cases N with
    | false =>
      rw [Bool.false_and, if_neg (by decide)] at hres
      go_wp2_with (first | (go_at_call 36; (with_reducible refine (must_no 2 _).mono ?_); rintro e_ w_ ⟨rfl, rfl⟩))
      subst hres
      exact ⟨rfl, PDone.err HG1.out.turn⟩
    | true =>
      cases L with
      | false =>
        rw [Bool.true_and, if_neg (by decide)] at hres
        go_wp2_with (first | (go_at_call 36; (with_reducible refine (must_no 2 _).mono ?_); rintro e_ w_ ⟨rfl, rfl⟩))
        subst hres
        exact ⟨rfl, PDone.err HG1.out.turn⟩
      | true =>
        rw [Bool.true_and, if_pos rfl] at hres
        go_upto_region 3 with (first | (go_at_call 36; (with_reducible refine (must_yes 2 _).mono ?_); rintro e_ w_ ⟨rfl, rfl⟩))
        have y0 := HG1.out.frozen 0
        go_wp2_with (fail)
        go_end0
        subst hres
        exact PDone.done (HG1.out.set 0 (.int .i64 4) ⟨4, s.f1, s.f2, s.f3, s.f4, s.f5, s.f6⟩ rfl)
  · rw [if_neg h4] at hres
    have b4 : (e0 == 4) = false := beq_eq_false_iff_ne.2 h4
    clear h4
    by_cases h0 : e0 = 0
    · rw [if_pos h0] at hres
      have b0 : (e0 == 0) = true := beq_iff_eq.2 h0
      clear h0
      go_upto_region 5 with (first | (go_at_call 36; (with_reducible refine (must_yes _ _).mono ?_); rintro e_ w_ ⟨rfl, rfl⟩))
      have q8 := (blk_cell HH1.out 8).trans (show _ = some (Value.int .u8 h.f8) from rfl)
      by_cases k1 : h.f8 = 76
      · rw [if_pos k1] at hres
        have c1 : (h.f8 == 76) = true := beq_iff_eq.2 k1
        clear k1
        have htx := fun W G => text.at_ w0 b s l A c h s.f5 1 W G
        go_upto_region 8 with (fail)
        clear z0 z13 q8 c1
        have q0 := (blk_cell HH1.out 0).trans (show _ = some (Value.string h.f0) from rfl)
        have q1 := (blk_cell HH1.out 1).trans (show _ = some (Value.string h.f1) from rfl)
        have q2 := (blk_cell HH1.out 2).trans (show _ = some (Value.string h.f2) from rfl)
        have q3 := (blk_cell HH1.out 3).trans (show _ = some (Value.int .i64 h.f3) from rfl)
        have q4 := (blk_cell HH1.out 4).trans (show _ = some (Value.int .i64 h.f4) from rfl)
        have q5 := (blk_cell HH1.out 5).trans (show _ = some (Value.int .i64 h.f5) from rfl)
        have q6 := (blk_cell HH1.out 6).trans (show _ = some (Value.int .i64 h.f6) from rfl)
        have q7 := (blk_cell HH1.out 7).trans (show _ = some (Value.int .i64 h.f7) from rfl)
        have q8 := (blk_cell HH1.out 8).trans (show _ = some (Value.int .u8 h.f8) from rfl)
        have q9 := (blk_cell HH1.out 9).trans (show _ = some (Value.int .i64 h.f9) from rfl)
        have q10 := (blk_cell HH1.out 10).trans (show _ = some (Value.int .i64 h.f10) from rfl)
        have HGd := Aside0.mk (HG1.out.step (below_drew (Below.refl _ _)))
        refine start_ (n := 8) (S := fun w' => w'.cell? ⟨hb, 0, none⟩ = some (.string h.f0) ∧ w'.cell? ⟨hb, 1, none⟩ = some (.string h.f1) ∧ w'.cell? ⟨hb, 2, none⟩ = some (.string h.f2) ∧ w'.cell? ⟨hb, 3, none⟩ = some (.int .i64 h.f3) ∧ w'.cell? ⟨hb, 4, none⟩ = some (.int .i64 h.f4) ∧ w'.cell? ⟨hb, 5, none⟩ = some (.int .i64 h.f5) ∧ w'.cell? ⟨hb, 6, none⟩ = some (.int .i64 h.f6) ∧ w'.cell? ⟨hb, 7, none⟩ = some (.int .i64 h.f7) ∧ w'.cell? ⟨hb, 8, none⟩ = some (.int .u8 h.f8) ∧ w'.cell? ⟨hb, 9, none⟩ = some (.int .i64 h.f9) ∧ w'.cell? ⟨hb, 10, none⟩ = some (.int .i64 h.f10) ∧ w'.cell? ⟨b, 12, none⟩ = some (.string s.f5)) (ds := [7]) #[false, false, false, false, false, false, false, false] (by kernel_rfl) rfl rfl ⟨q0, q1, q2, q3, q4, q5, q6, q7, q8, q9, q10, z12⟩ (fun hHeld => ?_)
        refine pure_ (i := 0) (N := some 43) (v := ?_) (a' := ?_) #[true, false, false, false, false, false, false, false] rfl rfl (by kernel_rfl) (fun _ _ _ h => h) (Or.inl ⟨by rfl, ?_⟩) ?_ ?_
        rotate_left
        · intro w'
          go_simp
          with_reducible rfl
        rotate_left
        · aput
          rfl
        refine take_ (i := 1) (N := some 44) (v := ?_) (a' := ?_) #[true, true, false, false, false, false, false, false] rfl rfl (by kernel_rfl) (fun _ _ _ h => h) (Or.inl ⟨by rfl, ?_⟩) hHeld ?_ ?_
        rotate_left
        · rintro w' ⟨s0, s1, s2, s3, s4, s5, s6, s7, s8, s9, s10, s11⟩
          go_simp
          with_reducible rfl
        rotate_left
        · aput
          rfl
        refine pure_ (i := 2) (N := some 45) (v := ?_) (a' := ?_) #[true, true, true, false, false, false, false, false] rfl rfl (by kernel_rfl) (fun _ _ _ h => h) (Or.inl ⟨by rfl, ?_⟩) ?_ ?_
        rotate_left
        · intro w'
          go_simp
          with_reducible rfl
        rotate_left
        · aput
          rfl
        refine pure_ (i := 3) (N := some 46) (v := ?_) (a' := ?_) #[true, true, true, true, false, false, false, false] rfl rfl (by kernel_rfl) (fun _ _ _ h => h) (Or.inl ⟨by rfl, ?_⟩) ?_ ?_
        rotate_left
        · intro w'
          go_simp
          with_reducible rfl
        rotate_left
        · aput
          rfl
        refine pure_ (i := 4) (N := some 47) (v := ?_) (a' := ?_) #[true, true, true, true, true, false, false, false] rfl rfl (by kernel_rfl) (fun _ _ _ h => h) (Or.inl ⟨by rfl, ?_⟩) ?_ ?_
        rotate_left
        · intro w'
          go_simp
          with_reducible rfl
        rotate_left
        · aput
          rfl
        refine pure_ (i := 5) (N := some 48) (v := ?_) (a' := ?_) #[true, true, true, true, true, true, false, false] rfl rfl (by kernel_rfl) (fun _ _ _ h => h) (Or.inl ⟨by rfl, ?_⟩) ?_ ?_
        rotate_left
        · intro w'
          go_simp
          with_reducible rfl
        rotate_left
        · aput
          rfl
        refine take_ (i := 6) (N := some 49) (v := ?_) (a' := ?_) #[true, true, true, true, true, true, true, false] rfl rfl (by kernel_rfl) (fun _ _ _ h => h) (Or.inl ⟨by rfl, ?_⟩) hHeld ?_ ?_
        rotate_left
        · rintro w' ⟨s0, s1, s2, s3, s4, s5, s6, s7, s8, s9, s10, s11⟩
          go_simp
          with_reducible rfl
        rotate_left
        · aput
          rfl
        refine last_ (i := 7) (N := some 50) #[true, true, true, true, true, true, true, true] rfl rfl (by kernel_rfl) (by decide) (fun K hK => ?_)
        rw [if_pos (by rfl)]
        go_simp
        refine (htx _ HGd.out).mono ?_
        rw [hres]
        clear hres
        cases res with
        | error k =>
          rintro e_ w2 ⟨rfl, hT⟩
          exact ⟨rfl, PDone.err hT⟩
        | ok r =>
          obtain ⟨s2, l2⟩ := r
          rintro e_ w2 ⟨rfl, A2, c2, G2⟩
          refine hK.out _ _ ?_
          clear hK K
          refine done_ (by kernel_rfl) ?_
          go_wp2_with (fail)
          go_end0
          exact PDone.done G2
      · rw [if_neg k1] at hres
        have c1 : (h.f8 == 76) = false := beq_eq_false_iff_ne.2 k1
        clear k1
        by_cases k2 : h.f8 = 75
        · rw [if_pos k2] at hres
          have c2 : (h.f8 == 75) = true := beq_iff_eq.2 k2
          clear k2
          have htx := fun W G => text.at_ w0 b s l A c h s.f6 2 W G
          go_upto_region 10 with (fail)
          clear z0 z12 q8 c1 c2
          have q0 := (blk_cell HH1.out 0).trans (show _ = some (Value.string h.f0) from rfl)
          have q1 := (blk_cell HH1.out 1).trans (show _ = some (Value.string h.f1) from rfl)
          have q2 := (blk_cell HH1.out 2).trans (show _ = some (Value.string h.f2) from rfl)
          have q3 := (blk_cell HH1.out 3).trans (show _ = some (Value.int .i64 h.f3) from rfl)
          have q4 := (blk_cell HH1.out 4).trans (show _ = some (Value.int .i64 h.f4) from rfl)
          have q5 := (blk_cell HH1.out 5).trans (show _ = some (Value.int .i64 h.f5) from rfl)
          have q6 := (blk_cell HH1.out 6).trans (show _ = some (Value.int .i64 h.f6) from rfl)
          have q7 := (blk_cell HH1.out 7).trans (show _ = some (Value.int .i64 h.f7) from rfl)
          have q8 := (blk_cell HH1.out 8).trans (show _ = some (Value.int .u8 h.f8) from rfl)
          have q9 := (blk_cell HH1.out 9).trans (show _ = some (Value.int .i64 h.f9) from rfl)
          have q10 := (blk_cell HH1.out 10).trans (show _ = some (Value.int .i64 h.f10) from rfl)
          have HGd := Aside0.mk (HG1.out.step (below_drew (Below.refl _ _)))
          refine start_ (n := 8) (S := fun w' => w'.cell? ⟨hb, 0, none⟩ = some (.string h.f0) ∧ w'.cell? ⟨hb, 1, none⟩ = some (.string h.f1) ∧ w'.cell? ⟨hb, 2, none⟩ = some (.string h.f2) ∧ w'.cell? ⟨hb, 3, none⟩ = some (.int .i64 h.f3) ∧ w'.cell? ⟨hb, 4, none⟩ = some (.int .i64 h.f4) ∧ w'.cell? ⟨hb, 5, none⟩ = some (.int .i64 h.f5) ∧ w'.cell? ⟨hb, 6, none⟩ = some (.int .i64 h.f6) ∧ w'.cell? ⟨hb, 7, none⟩ = some (.int .i64 h.f7) ∧ w'.cell? ⟨hb, 8, none⟩ = some (.int .u8 h.f8) ∧ w'.cell? ⟨hb, 9, none⟩ = some (.int .i64 h.f9) ∧ w'.cell? ⟨hb, 10, none⟩ = some (.int .i64 h.f10) ∧ w'.cell? ⟨b, 13, none⟩ = some (.string s.f6)) (ds := [7]) #[false, false, false, false, false, false, false, false] (by kernel_rfl) rfl rfl ⟨q0, q1, q2, q3, q4, q5, q6, q7, q8, q9, q10, z13⟩ (fun hHeld => ?_)
          refine pure_ (i := 0) (N := some 53) (v := ?_) (a' := ?_) #[true, false, false, false, false, false, false, false] rfl rfl (by kernel_rfl) (fun _ _ _ h => h) (Or.inl ⟨by rfl, ?_⟩) ?_ ?_
          rotate_left
          · intro w'
            go_simp
            with_reducible rfl
          rotate_left
          · aput
            rfl
          refine take_ (i := 1) (N := some 54) (v := ?_) (a' := ?_) #[true, true, false, false, false, false, false, false] rfl rfl (by kernel_rfl) (fun _ _ _ h => h) (Or.inl ⟨by rfl, ?_⟩) hHeld ?_ ?_
          rotate_left
          · rintro w' ⟨s0, s1, s2, s3, s4, s5, s6, s7, s8, s9, s10, s11⟩
            go_simp
            with_reducible rfl
          rotate_left
          · aput
            rfl
          refine pure_ (i := 2) (N := some 55) (v := ?_) (a' := ?_) #[true, true, true, false, false, false, false, false] rfl rfl (by kernel_rfl) (fun _ _ _ h => h) (Or.inl ⟨by rfl, ?_⟩) ?_ ?_
          rotate_left
          · intro w'
            go_simp
            with_reducible rfl
          rotate_left
          · aput
            rfl
          refine pure_ (i := 3) (N := some 56) (v := ?_) (a' := ?_) #[true, true, true, true, false, false, false, false] rfl rfl (by kernel_rfl) (fun _ _ _ h => h) (Or.inl ⟨by rfl, ?_⟩) ?_ ?_
          rotate_left
          · intro w'
            go_simp
            with_reducible rfl
          rotate_left
          · aput
            rfl
          refine pure_ (i := 4) (N := some 57) (v := ?_) (a' := ?_) #[true, true, true, true, true, false, false, false] rfl rfl (by kernel_rfl) (fun _ _ _ h => h) (Or.inl ⟨by rfl, ?_⟩) ?_ ?_
          rotate_left
          · intro w'
            go_simp
            with_reducible rfl
          rotate_left
          · aput
            rfl
          refine pure_ (i := 5) (N := some 58) (v := ?_) (a' := ?_) #[true, true, true, true, true, true, false, false] rfl rfl (by kernel_rfl) (fun _ _ _ h => h) (Or.inl ⟨by rfl, ?_⟩) ?_ ?_
          rotate_left
          · intro w'
            go_simp
            with_reducible rfl
          rotate_left
          · aput
            rfl
          refine take_ (i := 6) (N := some 59) (v := ?_) (a' := ?_) #[true, true, true, true, true, true, true, false] rfl rfl (by kernel_rfl) (fun _ _ _ h => h) (Or.inl ⟨by rfl, ?_⟩) hHeld ?_ ?_
          rotate_left
          · rintro w' ⟨s0, s1, s2, s3, s4, s5, s6, s7, s8, s9, s10, s11⟩
            go_simp
            with_reducible rfl
          rotate_left
          · aput
            rfl
          refine last_ (i := 7) (N := some 60) #[true, true, true, true, true, true, true, true] rfl rfl (by kernel_rfl) (by decide) (fun K hK => ?_)
          rw [if_pos (by rfl)]
          go_simp
          refine (htx _ HGd.out).mono ?_
          rw [hres]
          clear hres
          cases res with
          | error k =>
            rintro e_ w2 ⟨rfl, hT⟩
            exact ⟨rfl, PDone.err hT⟩
          | ok r =>
            obtain ⟨s2, l2⟩ := r
            rintro e_ w2 ⟨rfl, A2, c2, G2⟩
            refine hK.out _ _ ?_
            clear hK K
            refine done_ (by kernel_rfl) ?_
            go_wp2_with (fail)
            go_end0
            exact PDone.done G2
        · rw [if_neg k2] at hres
          have c2 : (h.f8 == 75) = false := beq_eq_false_iff_ne.2 k2
          clear k2
          by_cases k3 : h.f8 = 77
          · rw [if_pos (.inl k3)] at hres
            have c3 : (h.f8 == 77) = true := beq_iff_eq.2 k3
            clear k3
            subst hres
            go_wp2_with (first | (go_at_call 36; (with_reducible refine (must_no 5 _).mono ?_); rintro e_ w_ ⟨rfl, rfl⟩))
            exact ⟨rfl, PDone.err HG1.out.turn⟩
          · have c3 : (h.f8 == 77) = false := beq_eq_false_iff_ne.2 k3
            by_cases k4 : h.f8 = 86
            · rw [if_pos (.inr k4)] at hres
              have c4 : (h.f8 == 86) = true := beq_iff_eq.2 k4
              clear k3 k4
              subst hres
              go_wp2_with (first | (go_at_call 36; (with_reducible refine (must_no 5 _).mono ?_); rintro e_ w_ ⟨rfl, rfl⟩))
              exact ⟨rfl, PDone.err HG1.out.turn⟩
            · rw [if_neg (fun hh => hh.elim k3 k4)] at hres
              have c4 : (h.f8 == 86) = false := beq_eq_false_iff_ne.2 k4
              clear k3 k4
              have hno := fun W G => node.at_ w0 b s l A c h HSZ.out.1 HSZ.out.2 (by omega) W G
              rw [hres] at hno
              clear hres
              have q0 := (blk_cell HH1.out 0).trans (show _ = some (Value.string h.f0) from rfl)
              have q1 := (blk_cell HH1.out 1).trans (show _ = some (Value.string h.f1) from rfl)
              have q2 := (blk_cell HH1.out 2).trans (show _ = some (Value.string h.f2) from rfl)
              have q3 := (blk_cell HH1.out 3).trans (show _ = some (Value.int .i64 h.f3) from rfl)
              have q4 := (blk_cell HH1.out 4).trans (show _ = some (Value.int .i64 h.f4) from rfl)
              have q5 := (blk_cell HH1.out 5).trans (show _ = some (Value.int .i64 h.f5) from rfl)
              have q6 := (blk_cell HH1.out 6).trans (show _ = some (Value.int .i64 h.f6) from rfl)
              have q7 := (blk_cell HH1.out 7).trans (show _ = some (Value.int .i64 h.f7) from rfl)
              have q8 := (blk_cell HH1.out 8).trans (show _ = some (Value.int .u8 h.f8) from rfl)
              have q9 := (blk_cell HH1.out 9).trans (show _ = some (Value.int .i64 h.f9) from rfl)
              have q10 := (blk_cell HH1.out 10).trans (show _ = some (Value.int .i64 h.f10) from rfl)
              cases res with
              | error k =>
                go_wp2_with (go_at_call 61; (refine (hno _ HG1.out).mono ?_); rintro e_ w2 ⟨rfl, hT⟩)
                exact ⟨rfl, PDone.err hT⟩
              | ok r =>
                obtain ⟨s2, l2⟩ := r
                go_wp2_with (go_at_call 61; (refine (hno _ HG1.out).mono ?_); rintro e_ w2 ⟨rfl, A2, c2, G2⟩)
                go_end0
                exact PDone.done G2
    · rw [if_neg h0] at hres
      have b0 : (e0 == 0) = false := beq_eq_false_iff_ne.2 h0
      clear h0
      subst hres
      go_wp2_with (first | (go_at_call 36; (with_reducible refine (must_no _ _).mono ?_); rintro e_ w_ ⟨rfl, rfl⟩))
      exact ⟨rfl, PDone.err HG1.out.turn⟩
end
section
open Go.Proofs.YtpedagpcblnnhaaGreatY
set_option maxRecDepth 100000
def stepP (s : Pst) (x : List Int) : Except Int (Pst × List Evt) :=
  if (mayS s && decide (x.length = 512)) = true then
    (if s.f0 = 0 then headP s x [] else if s.f0 = 1 then nameP s x [] else if s.f0 = 2 then nameP s x [] else if s.f0 = 3 then dataP s x [] else if s.f0 = 4 then zeroP s x [] else .error 17)
  else .error 1
structure StepAt (w : World) (s t : Pst) (v : Value) (k : Int) (W : World) : Prop where
  bel : Below w.heap.size w W
  hs : W.heap[w.heap.size]? = some (.cells #[.int .i64 s.f0, .string s.f1.f0, .string s.f1.f1, .int .u8 s.f1.f2, .int .i64 s.f1.f3, .int .i64 s.f1.f4, .int .i64 s.f1.f5, .int .i64 s.f1.f6, .string s.f1.f7, .int .i64 s.f2, .int .i64 s.f3, .string s.f4, .string s.f5, .string s.f6] 49 (0, 0))
  ht : W.heap[w.heap.size + 1]? = some (.cells #[.int .i64 t.f0, .string t.f1.f0, .string t.f1.f1, .int .u8 t.f1.f2, .int .i64 t.f1.f3, .int .i64 t.f1.f4, .int .i64 t.f1.f5, .int .i64 t.f1.f6, .string t.f1.f7, .int .i64 t.f2, .int .i64 t.f3, .string t.f4, .string t.f5, .string t.f6] 49 (0, 0))
  hl : W.heap[w.heap.size + 1 + 1]? = some (.cells #[v] 22 (0, 0))
  he : W.heap[w.heap.size + 1 + 1 + 1]? = some (.cells #[.int .i64 k] 30 (0, 0))
theorem StepAt.step {w : World} {s t : Pst} {v : Value} {k : Int} {W W' : World} (G : StepAt w s t v k W) (h : Below W.heap.size W W') : StepAt w s t v k W' :=
  ⟨below_step G.bel h, blk_below G.hs h, blk_below G.ht h, blk_below G.hl h, blk_below G.he h⟩
theorem StepAt.start (w : World) (s : Pst) : StepAt w s st0 (.slice none 0 0) 0 ((((w.alloc (.cells #[.int .i64 s.f0, .string s.f1.f0, .string s.f1.f1, .int .u8 s.f1.f2, .int .i64 s.f1.f3, .int .i64 s.f1.f4, .int .i64 s.f1.f5, .int .i64 s.f1.f6, .string s.f1.f7, .int .i64 s.f2, .int .i64 s.f3, .string s.f4, .string s.f5, .string s.f6] 49)).alloc (.cells #[.int .i64 0, .string ⟨#[]⟩, .string ⟨#[]⟩, .int .u8 0, .int .i64 0, .int .i64 0, .int .i64 0, .int .i64 0, .string ⟨#[]⟩, .int .i64 0, .int .i64 0, .string ⟨#[]⟩, .string ⟨#[]⟩, .string ⟨#[]⟩] 49)).alloc (.cells #[.slice none 0 0] 22)).alloc (.cells #[.int .i64 0] 30)) := by
  have a1 := heap_alloc_new w (.cells #[.int .i64 s.f0, .string s.f1.f0, .string s.f1.f1, .int .u8 s.f1.f2, .int .i64 s.f1.f3, .int .i64 s.f1.f4, .int .i64 s.f1.f5, .int .i64 s.f1.f6, .string s.f1.f7, .int .i64 s.f2, .int .i64 s.f3, .string s.f4, .string s.f5, .string s.f6] 49)
  have a2 := heap_alloc_new (w.alloc (.cells #[.int .i64 s.f0, .string s.f1.f0, .string s.f1.f1, .int .u8 s.f1.f2, .int .i64 s.f1.f3, .int .i64 s.f1.f4, .int .i64 s.f1.f5, .int .i64 s.f1.f6, .string s.f1.f7, .int .i64 s.f2, .int .i64 s.f3, .string s.f4, .string s.f5, .string s.f6] 49)) (.cells #[.int .i64 0, .string ⟨#[]⟩, .string ⟨#[]⟩, .int .u8 0, .int .i64 0, .int .i64 0, .int .i64 0, .int .i64 0, .string ⟨#[]⟩, .int .i64 0, .int .i64 0, .string ⟨#[]⟩, .string ⟨#[]⟩, .string ⟨#[]⟩] 49)
  have a3 := heap_alloc_new ((w.alloc (.cells #[.int .i64 s.f0, .string s.f1.f0, .string s.f1.f1, .int .u8 s.f1.f2, .int .i64 s.f1.f3, .int .i64 s.f1.f4, .int .i64 s.f1.f5, .int .i64 s.f1.f6, .string s.f1.f7, .int .i64 s.f2, .int .i64 s.f3, .string s.f4, .string s.f5, .string s.f6] 49)).alloc (.cells #[.int .i64 0, .string ⟨#[]⟩, .string ⟨#[]⟩, .int .u8 0, .int .i64 0, .int .i64 0, .int .i64 0, .int .i64 0, .string ⟨#[]⟩, .int .i64 0, .int .i64 0, .string ⟨#[]⟩, .string ⟨#[]⟩, .string ⟨#[]⟩] 49)) (.cells #[.slice none 0 0] 22)
  have a4 := heap_alloc_new (((w.alloc (.cells #[.int .i64 s.f0, .string s.f1.f0, .string s.f1.f1, .int .u8 s.f1.f2, .int .i64 s.f1.f3, .int .i64 s.f1.f4, .int .i64 s.f1.f5, .int .i64 s.f1.f6, .string s.f1.f7, .int .i64 s.f2, .int .i64 s.f3, .string s.f4, .string s.f5, .string s.f6] 49)).alloc (.cells #[.int .i64 0, .string ⟨#[]⟩, .string ⟨#[]⟩, .int .u8 0, .int .i64 0, .int .i64 0, .int .i64 0, .int .i64 0, .string ⟨#[]⟩, .int .i64 0, .int .i64 0, .string ⟨#[]⟩, .string ⟨#[]⟩, .string ⟨#[]⟩] 49)).alloc (.cells #[.slice none 0 0] 22)) (.cells #[.int .i64 0] 30)
  simp only [World.size_alloc] at a2 a3 a4
  exact ⟨below_alloc (below_alloc (below_alloc (below_alloc (Below.refl _ _) _) _) _) _, blk_alloc (blk_alloc (blk_alloc a1 _) _) _, blk_alloc (blk_alloc a2 _) _, blk_alloc a3 _, a4⟩
theorem PAt.start (W : World) (b : Nat) (s : Pst) (h : W.heap[b]? = some (.cells #[.int .i64 s.f0, .string s.f1.f0, .string s.f1.f1, .int .u8 s.f1.f2, .int .i64 s.f1.f3, .int .i64 s.f1.f4, .int .i64 s.f1.f5, .int .i64 s.f1.f6, .string s.f1.f7, .int .i64 s.f2, .int .i64 s.f3, .string s.f4, .string s.f5, .string s.f6, .slice none ([] : List Evt).length 0] 72 (0, 0))) : PAt W b s [] none 0 W := ⟨Turn.refl _ _, blk_lt h, h, Kd.R_nil _ _ _ _ _⟩
theorem StepAt.turn {w : World} {s t : Pst} {v : Value} {k : Int} {b : Nat} {W W' : World} (G : StepAt w s t v k W) (hb : w.heap.size + 1 + 1 + 1 < b) (h : Turn (fun i => i = b) W W') : StepAt w s t v k W' :=
  have keep : ∀ i, i ≤ w.heap.size + 1 + 1 + 1 → W'.heap[i]? = W.heap[i]? := fun i hi => h.block i (by have := blk_lt G.he; omega) (by omega)
  ⟨⟨h.os.trans G.bel.os, h.tape.trans G.bel.tape, h.output.trans G.bel.output, Nat.le_trans G.bel.size h.size, fun i hi => (keep i (by omega)).trans (G.bel.block i hi)⟩, (keep _ (by omega)).trans G.hs, (keep _ (by omega)).trans G.ht, (keep _ (by omega)).trans G.hl, (keep _ (by omega)).trans G.he⟩
theorem st_size : (Tryz.prog.info? 49).map (·.size) = some 14 := by kernel_rfl
theorem step_results {w W : World} {s t : Pst} {A : Option Addr} {n c : Nat} {k : Int} (G : StepAt w s t (.slice A n c) k W) (tmps : Array Value) (h4 : tmps[4]?.getD undef = .pointer (some ⟨w.heap.size + 1, 0, none⟩)) (h5 : tmps[5]?.getD undef = .pointer (some ⟨w.heap.size + 1 + 1, 0, none⟩)) (h6 : tmps[6]?.getD undef = .pointer (some ⟨w.heap.size + 1 + 1 + 1, 0, none⟩)) :
    (results Tryz.f28 tmps).run Tryz.prog W = .ok (.tuple #[.agg #[.int .i64 t.f0, .string t.f1.f0, .string t.f1.f1, .int .u8 t.f1.f2, .int .i64 t.f1.f3, .int .i64 t.f1.f4, .int .i64 t.f1.f5, .int .i64 t.f1.f6, .string t.f1.f7, .int .i64 t.f2, .int .i64 t.f3, .string t.f4, .string t.f5, .string t.f6], .slice A n c, .int .i64 k]) W := by
  have t0 := (blk_cell G.ht 0).trans (show _ = some (Value.int .i64 t.f0) from rfl)
  have t1 := (blk_cell G.ht 1).trans (show _ = some (Value.string t.f1.f0) from rfl)
  have t2 := (blk_cell G.ht 2).trans (show _ = some (Value.string t.f1.f1) from rfl)
  have t3 := (blk_cell G.ht 3).trans (show _ = some (Value.int .u8 t.f1.f2) from rfl)
  have t4 := (blk_cell G.ht 4).trans (show _ = some (Value.int .i64 t.f1.f3) from rfl)
  have t5 := (blk_cell G.ht 5).trans (show _ = some (Value.int .i64 t.f1.f4) from rfl)
  have t6 := (blk_cell G.ht 6).trans (show _ = some (Value.int .i64 t.f1.f5) from rfl)
  have t7 := (blk_cell G.ht 7).trans (show _ = some (Value.int .i64 t.f1.f6) from rfl)
  have t8 := (blk_cell G.ht 8).trans (show _ = some (Value.string t.f1.f7) from rfl)
  have t9 := (blk_cell G.ht 9).trans (show _ = some (Value.int .i64 t.f2) from rfl)
  have t10 := (blk_cell G.ht 10).trans (show _ = some (Value.int .i64 t.f3) from rfl)
  have t11 := (blk_cell G.ht 11).trans (show _ = some (Value.string t.f4) from rfl)
  have t12 := (blk_cell G.ht 12).trans (show _ = some (Value.string t.f5) from rfl)
  have t13 := (blk_cell G.ht 13).trans (show _ = some (Value.string t.f6) from rfl)
  have z2 := (blk_cell G.hl 0).trans (show _ = some (Value.slice A n c) from rfl)
  have z3 := (blk_cell G.he 0).trans (show _ = some (Value.int .i64 k) from rfl)
  simp [results, Tryz.results28, h4, h5, h6, asAddr, t0, t1, t2, t3, t4, t5, t6, t7, t8, t9, t10, t11, t12, t13, z2, z3, go_sem]
def resR (s : Pst) (r : Except Int (Pst × List Evt)) : Pst × List Evt × Int := match r with
  | .ok (t, l) => (t, l, 0)
  | .error k => (s, [], k)
def stepR (s : Pst) (x : List Int) : Pst × List Evt × Int := resR s (stepP s x)
def StepPost (w : World) (r : Pst × List Evt × Int) (e : Ending) (w' : World) : Prop :=
  ∃ A c, e = .returned (.tuple #[.agg #[.int .i64 r.1.f0, .string r.1.f1.f0, .string r.1.f1.f1, .int .u8 r.1.f1.f2, .int .i64 r.1.f1.f3, .int .i64 r.1.f1.f4, .int .i64 r.1.f1.f5, .int .i64 r.1.f1.f6, .string r.1.f1.f7, .int .i64 r.1.f2, .int .i64 r.1.f3, .string r.1.f4, .string r.1.f5, .string r.1.f6], .slice A r.2.1.length c, .int .i64 r.2.2]) ∧ Aside0 (Kd.R k45 45 w' w.heap.size (fun _ => True) (.slice A r.2.1.length c) r.2.1) ∧ Below w.heap.size w w'
theorem bel_turn {w W W' : World} (G : Below w.heap.size w W) (hT : Turn (fun i => w.heap.size ≤ i) W W') : Below w.heap.size w W' :=
  ⟨hT.os.trans G.os, hT.tape.trans G.tape, hT.output.trans G.output, Nat.le_trans G.size hT.size, fun i hi => (hT.block i (Nat.lt_of_lt_of_le hi G.size) (by omega)).trans (G.block i hi)⟩
theorem StepAt.put {w : World} {s t : Pst} {v : Value} {k : Int} {W : World} (G : StepAt w s t v k W) (t' : Pst) : StepAt w s t' v k (((((((((((((((W.setCell ⟨w.heap.size + 1, 0, none⟩ (.int .i64 t'.f0)).setCell ⟨w.heap.size + 1, 1, none⟩ (.string t'.f1.f0)).setCell ⟨w.heap.size + 1, 2, none⟩ (.string t'.f1.f1)).setCell ⟨w.heap.size + 1, 3, none⟩ (.int .u8 t'.f1.f2)).setCell ⟨w.heap.size + 1, 4, none⟩ (.int .i64 t'.f1.f3)).setCell ⟨w.heap.size + 1, 5, none⟩ (.int .i64 t'.f1.f4)).setCell ⟨w.heap.size + 1, 6, none⟩ (.int .i64 t'.f1.f5)).setCell ⟨w.heap.size + 1, 7, none⟩ (.int .i64 t'.f1.f6)).setCell ⟨w.heap.size + 1, 8, none⟩ (.string t'.f1.f7)).setCell ⟨w.heap.size + 1, 9, none⟩ (.int .i64 t'.f2)).setCell ⟨w.heap.size + 1, 10, none⟩ (.int .i64 t'.f3)).setCell ⟨w.heap.size + 1, 11, none⟩ (.string t'.f4)).setCell ⟨w.heap.size + 1, 12, none⟩ (.string t'.f5)).setCell ⟨w.heap.size + 1, 13, none⟩ (.string t'.f6))) :=
  have h := set14 (S := fun i => w.heap.size ≤ i) G.ht (Turn.refl _ _) (by omega) t'
  ⟨bel_turn G.bel h.2, far14 G.hs (by omega) t', h.1, far14 G.hl (by omega) t', far14 G.he (by omega) t'⟩
theorem StepAt.putl {w : World} {s t : Pst} {v : Value} {k : Int} {W : World} (G : StepAt w s t v k W) (v' : Value) : StepAt w s t v' k (W.setCell ⟨w.heap.size + 1 + 1, 0, none⟩ v') :=
  ⟨bel_turn G.bel (Turn.setCell _ _ (by show w.heap.size ≤ w.heap.size + 1 + 1; omega)), blk_far G.hs (p := ⟨w.heap.size + 1 + 1, 0, none⟩) (by show w.heap.size ≠ w.heap.size + 1 + 1; omega) v', blk_far G.ht (p := ⟨w.heap.size + 1 + 1, 0, none⟩) (by show w.heap.size + 1 ≠ w.heap.size + 1 + 1; omega) v', blk_put G.hl 0 v' rfl, blk_far G.he (p := ⟨w.heap.size + 1 + 1, 0, none⟩) (by show w.heap.size + 1 + 1 + 1 ≠ w.heap.size + 1 + 1; omega) v'⟩
theorem StepAt.pute {w : World} {s t : Pst} {v : Value} {k : Int} {W : World} (G : StepAt w s t v k W) (k' : Int) : StepAt w s t v k' (W.setCell ⟨w.heap.size + 1 + 1 + 1, 0, none⟩ (.int .i64 k')) :=
  ⟨bel_turn G.bel (Turn.setCell _ _ (by show w.heap.size ≤ w.heap.size + 1 + 1 + 1; omega)), blk_far G.hs (p := ⟨w.heap.size + 1 + 1 + 1, 0, none⟩) (by show w.heap.size ≠ w.heap.size + 1 + 1 + 1; omega) _, blk_far G.ht (p := ⟨w.heap.size + 1 + 1 + 1, 0, none⟩) (by show w.heap.size + 1 ≠ w.heap.size + 1 + 1 + 1; omega) _, blk_far G.hl (p := ⟨w.heap.size + 1 + 1 + 1, 0, none⟩) (by show w.heap.size + 1 + 1 ≠ w.heap.size + 1 + 1 + 1; omega) _, blk_put G.he 0 (.int .i64 k') rfl⟩
def calm2 (Q : Exit → Act → World → Prop) : Exit → Act → World → Prop
  | .panic _, _, _ => False
  | e, a, w => Q e a w
theorem region_calm2 {P : Program} {c : Code} {Q : Exit → Act → World → Prop} {a : Act} {w : World} (h : c.wp P (calm2 Q) a w) : c.wp P Q a w :=
  wp_mono h fun e a w h => by cases e <;> first | exact h | exact h.elim
theorem low14 {α : Type} {d : Kd α} {e base : Nat} {W : World} {v : Value} {xs : List α} (hR : Kd.R d e W base (fun _ => True) v xs) {g : Nat} (hp : g < base) (s : Pst) : Kd.R d e (((((((((((((((W.setCell ⟨g, 0, none⟩ (.int .i64 s.f0)).setCell ⟨g, 1, none⟩ (.string s.f1.f0)).setCell ⟨g, 2, none⟩ (.string s.f1.f1)).setCell ⟨g, 3, none⟩ (.int .u8 s.f1.f2)).setCell ⟨g, 4, none⟩ (.int .i64 s.f1.f3)).setCell ⟨g, 5, none⟩ (.int .i64 s.f1.f4)).setCell ⟨g, 6, none⟩ (.int .i64 s.f1.f5)).setCell ⟨g, 7, none⟩ (.int .i64 s.f1.f6)).setCell ⟨g, 8, none⟩ (.string s.f1.f7)).setCell ⟨g, 9, none⟩ (.int .i64 s.f2)).setCell ⟨g, 10, none⟩ (.int .i64 s.f3)).setCell ⟨g, 11, none⟩ (.string s.f4)).setCell ⟨g, 12, none⟩ (.string s.f5)).setCell ⟨g, 13, none⟩ (.string s.f6))) base (fun _ => True) v xs :=
  R_low (R_low (R_low (R_low (R_low (R_low (R_low (R_low (R_low (R_low (R_low (R_low (R_low (R_low (hR) (p := ⟨g, 0, none⟩) hp (.int .i64 s.f0)) (p := ⟨g, 1, none⟩) hp (.string s.f1.f0)) (p := ⟨g, 2, none⟩) hp (.string s.f1.f1)) (p := ⟨g, 3, none⟩) hp (.int .u8 s.f1.f2)) (p := ⟨g, 4, none⟩) hp (.int .i64 s.f1.f3)) (p := ⟨g, 5, none⟩) hp (.int .i64 s.f1.f4)) (p := ⟨g, 6, none⟩) hp (.int .i64 s.f1.f5)) (p := ⟨g, 7, none⟩) hp (.int .i64 s.f1.f6)) (p := ⟨g, 8, none⟩) hp (.string s.f1.f7)) (p := ⟨g, 9, none⟩) hp (.int .i64 s.f2)) (p := ⟨g, 10, none⟩) hp (.int .i64 s.f3)) (p := ⟨g, 11, none⟩) hp (.string s.f4)) (p := ⟨g, 12, none⟩) hp (.string s.f5)) (p := ⟨g, 13, none⟩) hp (.string s.f6)
theorem may_phase {s : Pst} (h : mayS s = true) : s.f0 = 0 ∨ (s.f0 = 1 ∧ 2 ≤ s.f2 ∧ s.f2 ≤ 301) ∨ (s.f0 = 2 ∧ 2 ≤ s.f2 ∧ s.f2 ≤ 301) ∨ (s.f0 = 3 ∧ 1 ≤ s.f3 ∧ s.f3 ≤ 4000) ∨ s.f0 = 4 ∨ s.f0 = 5 := by
  unfold mayS at h
  have inb : ∀ n a b : Int, inB3 n a b = true → a ≤ n ∧ n ≤ b := fun n a b h => by
    unfold inB3 at h
    rw [Bool.and_eq_true, decide_eq_true_eq, decide_eq_true_eq] at h
    exact h
  by_cases h0 : s.f0 = 0
  · exact .inl h0
  rw [if_neg h0] at h
  by_cases h1 : s.f0 = 1
  · rw [if_pos h1] at h
    simp only [Bool.and_eq_true] at h
    exact .inr (.inl ⟨h1, inb _ _ _ h.2.2.1⟩)
  rw [if_neg h1] at h
  by_cases h2 : s.f0 = 2
  · rw [if_pos h2] at h
    simp only [Bool.and_eq_true] at h
    exact .inr (.inr (.inl ⟨h2, inb _ _ _ h.2.2.1⟩))
  rw [if_neg h2] at h
  by_cases h3 : s.f0 = 3
  · rw [if_pos h3] at h
    simp only [Bool.and_eq_true] at h
    have e1 := inb _ _ _ h.2.2.2.2.1
    have e2 := inb _ _ _ h.2.2.2.2.2.1
    exact .inr (.inr (.inr (.inl ⟨h3, by omega, by omega⟩)))
  rw [if_neg h3] at h
  by_cases h4 : s.f0 = 4
  · exact .inr (.inr (.inr (.inr (.inl h4))))
  rw [if_neg h4] at h
  by_cases h5 : s.f0 = 5
  · exact .inr (.inr (.inr (.inr (.inr h5))))
  rw [if_neg h5] at h
  cases h
theorem step_fails {w W : World} {s t : Pst} {v : Value} {k : Int} (G : StepAt w s t v k W) (q : Int) (tmps : Array Value) (h4 : tmps[4]?.getD undef = .pointer (some ⟨w.heap.size + 1, 0, none⟩)) (h5 : tmps[5]?.getD undef = .pointer (some ⟨w.heap.size + 1 + 1, 0, none⟩)) (h6 : tmps[6]?.getD undef = .pointer (some ⟨w.heap.size + 1 + 1 + 1, 0, none⟩)) :
    Leaves Tryz.prog Tryz.f28 tmps (StepPost w (s, [], q)) [{ target := .fn (.func 35) #[.pointer (some ⟨w.heap.size, 0, none⟩), .pointer (some ⟨w.heap.size + 1, 0, none⟩), .pointer (some ⟨w.heap.size + 1 + 1, 0, none⟩), .pointer (some ⟨w.heap.size + 1 + 1 + 1, 0, none⟩)], args := #[] }] (.panicking [{ v := .iface 67 (.agg #[.int .i64 q]), recovered := false }]) W := by
  refine leaves_cons (f := 35) (args := #[.pointer (some ⟨w.heap.size, 0, none⟩), .pointer (some ⟨w.heap.size + 1, 0, none⟩), .pointer (some ⟨w.heap.size + 1 + 1, 0, none⟩), .pointer (some ⟨w.heap.size + 1 + 1 + 1, 0, none⟩)]) (by simp) (by simp [go_sem]) ?_
  refine (step1_panics _ _ _ _ s t q k v [] W G.hs G.ht G.hl G.he ⟨by omega, by omega, by omega, by omega, by omega, by omega⟩).mono ?_
  rintro e u' w'' ⟨rfl, rfl, hT, g1, g2, g3⟩
  have hb : Below w.heap.size w w'' := ⟨hT.os.trans G.bel.os, hT.tape.trans G.bel.tape, hT.output.trans G.bel.output, Nat.le_trans G.bel.size hT.size, fun i hi => (hT.block i (Nat.lt_of_lt_of_le hi G.bel.size) (by omega)).trans (G.bel.block i hi)⟩
  have g0 : w''.heap[w.heap.size]? = some (.cells #[.int .i64 s.f0, .string s.f1.f0, .string s.f1.f1, .int .u8 s.f1.f2, .int .i64 s.f1.f3, .int .i64 s.f1.f4, .int .i64 s.f1.f5, .int .i64 s.f1.f6, .string s.f1.f7, .int .i64 s.f2, .int .i64 s.f3, .string s.f4, .string s.f5, .string s.f6] 49 (0, 0)) := (hT.block _ (blk_lt G.hs) (by omega)).trans G.hs
  have G2 : StepAt w s s (.slice none 0 0) q w'' := ⟨hb, g0, g1, g2, g3⟩
  exact ⟨_, step_results G2 tmps h4 h5 h6, none, 0, rfl, ⟨Kd.R_nil _ _ _ _ _⟩, hb⟩
theorem step_goes {w W : World} {s t : Pst} {A : Option Addr} {c : Nat} {l : List Evt} (G : StepAt w s t (.slice A l.length c) 0 W) (hR : Kd.R k45 45 W w.heap.size (fun _ => True) (.slice A l.length c) l) (tmps : Array Value) (h4 : tmps[4]?.getD undef = .pointer (some ⟨w.heap.size + 1, 0, none⟩)) (h5 : tmps[5]?.getD undef = .pointer (some ⟨w.heap.size + 1 + 1, 0, none⟩)) (h6 : tmps[6]?.getD undef = .pointer (some ⟨w.heap.size + 1 + 1 + 1, 0, none⟩)) :
    Leaves Tryz.prog Tryz.f28 tmps (StepPost w (t, l, 0)) [{ target := .fn (.func 35) #[.pointer (some ⟨w.heap.size, 0, none⟩), .pointer (some ⟨w.heap.size + 1, 0, none⟩), .pointer (some ⟨w.heap.size + 1 + 1, 0, none⟩), .pointer (some ⟨w.heap.size + 1 + 1 + 1, 0, none⟩)], args := #[] }] .returning W := by
  refine leaves_cons (f := 35) (args := #[.pointer (some ⟨w.heap.size, 0, none⟩), .pointer (some ⟨w.heap.size + 1, 0, none⟩), .pointer (some ⟨w.heap.size + 1 + 1, 0, none⟩), .pointer (some ⟨w.heap.size + 1 + 1 + 1, 0, none⟩)]) (by simp) (by simp [go_sem]) ?_
  refine (step1_idle _ _ _ _ W).mono ?_
  rintro e u' w'' ⟨rfl, rfl, rfl⟩
  exact ⟨_, step_results G tmps h4 h5 h6, A, c, rfl, ⟨hR⟩, G.bel⟩
set_option maxHeartbeats 6400000 in
theorem parse_Step.at_ (s : Pst) (hs : s.f5.size ≤ 1000 ∧ s.f6.size ≤ 1000 ∧ s.f1.f0.size ≤ 1000 ∧ s.f1.f1.size ≤ 1000) (B : Option Addr) (d : Nat) (x : List Int) (w : World) (hC : Kd.C (Kd.int .u8) w B x.length x) (hd : x.length ≤ d) (hby : ∀ y ∈ x, 0 ≤ y ∧ y ≤ 255) :
    Calls Tryz.prog 28 #[.agg #[.int .i64 s.f0, .string s.f1.f0, .string s.f1.f1, .int .u8 s.f1.f2, .int .i64 s.f1.f3, .int .i64 s.f1.f4, .int .i64 s.f1.f5, .int .i64 s.f1.f6, .string s.f1.f7, .int .i64 s.f2, .int .i64 s.f3, .string s.f4, .string s.f5, .string s.f6], .slice B x.length d] w (StepPost w (stepR s x)) := by
  have hmf : ∀ (fn : Fn) (first cap : Array Value) (w : World), (Instr.makeFunc fn first cap).run Tryz.prog w = .ok (.func fn first cap) w := fun _ _ _ _ => rfl
  have HC := Aside0.mk hC
  have HS0 := Aside0.mk (StepAt.start w s)
  have hmay := fun W => parse_May.at_ s (Nat.le_trans hs.2.2.1 (by decide)) (Nat.le_trans hs.2.2.2 (by decide)) W
  unfold stepR
  obtain ⟨res, hres⟩ : ∃ res, stepP s x = res := ⟨_, rfl⟩
  rw [hres]
  unfold stepP at hres
  clear hC
  go_enter_defers Tryz.func28, Tryz.ntmps28
  go_upto_region 2 with (fail)
  obtain ⟨W1, hW1⟩ : ∃ W', (((w.alloc (.cells #[.int .i64 s.f0, .string s.f1.f0, .string s.f1.f1, .int .u8 s.f1.f2, .int .i64 s.f1.f3, .int .i64 s.f1.f4, .int .i64 s.f1.f5, .int .i64 s.f1.f6, .string s.f1.f7, .int .i64 s.f2, .int .i64 s.f3, .string s.f4, .string s.f5, .string s.f6] 49)).alloc (.cells #[.int .i64 0, .string ⟨#[]⟩, .string ⟨#[]⟩, .int .u8 0, .int .i64 0, .int .i64 0, .int .i64 0, .int .i64 0, .string ⟨#[]⟩, .int .i64 0, .int .i64 0, .string ⟨#[]⟩, .string ⟨#[]⟩, .string ⟨#[]⟩] 49)).alloc (.cells #[.slice none 0 0] 22)).alloc (.cells #[.int .i64 0] 30) = W' := ⟨_, rfl⟩
  rw [hW1] at HS0 ⊢
  clear hW1
  have z0 := (blk_cell HS0.out.hs 0).trans (show _ = some (Value.int .i64 s.f0) from rfl)
  have z1 := (blk_cell HS0.out.hs 1).trans (show _ = some (Value.string s.f1.f0) from rfl)
  have z2 := (blk_cell HS0.out.hs 2).trans (show _ = some (Value.string s.f1.f1) from rfl)
  have z3 := (blk_cell HS0.out.hs 3).trans (show _ = some (Value.int .u8 s.f1.f2) from rfl)
  have z4 := (blk_cell HS0.out.hs 4).trans (show _ = some (Value.int .i64 s.f1.f3) from rfl)
  have z5 := (blk_cell HS0.out.hs 5).trans (show _ = some (Value.int .i64 s.f1.f4) from rfl)
  have z6 := (blk_cell HS0.out.hs 6).trans (show _ = some (Value.int .i64 s.f1.f5) from rfl)
  have z7 := (blk_cell HS0.out.hs 7).trans (show _ = some (Value.int .i64 s.f1.f6) from rfl)
  have z8 := (blk_cell HS0.out.hs 8).trans (show _ = some (Value.string s.f1.f7) from rfl)
  have z9 := (blk_cell HS0.out.hs 9).trans (show _ = some (Value.int .i64 s.f2) from rfl)
  have z10 := (blk_cell HS0.out.hs 10).trans (show _ = some (Value.int .i64 s.f3) from rfl)
  have z11 := (blk_cell HS0.out.hs 11).trans (show _ = some (Value.string s.f4) from rfl)
  have z12 := (blk_cell HS0.out.hs 12).trans (show _ = some (Value.string s.f5) from rfl)
  have z13 := (blk_cell HS0.out.hs 13).trans (show _ = some (Value.string s.f6) from rfl)
  cases hm : mayS s with
  | false =>
    rw [hm] at hmay
    rw [hm, Bool.false_and, if_neg (by decide)] at hres
    go_wp2_with (first | (go_at_call 37; (with_reducible refine (hmay _).mono ?_); rintro e_ w2 ⟨rfl, hb_⟩; have HS2 := Aside0.mk (HS0.out.step hb_); have HC2 := Aside0.mk (Kd.C_below (Kd.C_below HC.out HS0.out.bel) hb_); clear hb_) | (go_at_call 36; (with_reducible refine (must_no 1 _).mono ?_); rintro e_ w_ ⟨rfl, rfl⟩))
    subst hres
    exact step_fails HS2.out 1 _ rfl rfl rfl
  | true =>
    rw [hm] at hmay
    rw [hm, Bool.true_and] at hres
    by_cases hx : x.length = 512
    · have hx1 : ((x.length : Int) == 512) = true := beq_iff_eq.2 (by omega)
      rw [if_pos (decide_eq_true hx)] at hres
      have HX := Aside0.mk hx
      clear hx
      go_upto_region 3 with (first | (go_at_call 37; (with_reducible refine (hmay _).mono ?_); rintro e_ w2 ⟨rfl, hb_⟩; have HS2 := Aside0.mk (HS0.out.step hb_); have HC2 := Aside0.mk (Kd.C_below (Kd.C_below HC.out HS0.out.bel) hb_); clear hb_) | (go_at_call 36; (with_reducible refine (must_yes 1 _).mono ?_); rintro e_ w_ ⟨rfl, rfl⟩))
      have x0 := (blk_cell HS2.out.hs 0).trans (show _ = some (Value.int .i64 s.f0) from rfl)
      have x1 := (blk_cell HS2.out.hs 1).trans (show _ = some (Value.string s.f1.f0) from rfl)
      have x2 := (blk_cell HS2.out.hs 2).trans (show _ = some (Value.string s.f1.f1) from rfl)
      have x3 := (blk_cell HS2.out.hs 3).trans (show _ = some (Value.int .u8 s.f1.f2) from rfl)
      have x4 := (blk_cell HS2.out.hs 4).trans (show _ = some (Value.int .i64 s.f1.f3) from rfl)
      have x5 := (blk_cell HS2.out.hs 5).trans (show _ = some (Value.int .i64 s.f1.f4) from rfl)
      have x6 := (blk_cell HS2.out.hs 6).trans (show _ = some (Value.int .i64 s.f1.f5) from rfl)
      have x7 := (blk_cell HS2.out.hs 7).trans (show _ = some (Value.int .i64 s.f1.f6) from rfl)
      have x8 := (blk_cell HS2.out.hs 8).trans (show _ = some (Value.string s.f1.f7) from rfl)
      have x9 := (blk_cell HS2.out.hs 9).trans (show _ = some (Value.int .i64 s.f2) from rfl)
      have x10 := (blk_cell HS2.out.hs 10).trans (show _ = some (Value.int .i64 s.f3) from rfl)
      have x11 := (blk_cell HS2.out.hs 11).trans (show _ = some (Value.string s.f4) from rfl)
      have x12 := (blk_cell HS2.out.hs 12).trans (show _ = some (Value.string s.f5) from rfl)
      have x13 := (blk_cell HS2.out.hs 13).trans (show _ = some (Value.string s.f6) from rfl)
      go_upto_region 5 with (fail)
      clear x0 x1 x2 x3 x4 x5 x6 x7 x8 x9 x10 x11 x12 x13
      have HP0 := Aside0.mk (blk_alloc (heap_alloc_new w2 (.cells #[.int .i64 s.f0, .string s.f1.f0, .string s.f1.f1, .int .u8 s.f1.f2, .int .i64 s.f1.f3, .int .i64 s.f1.f4, .int .i64 s.f1.f5, .int .i64 s.f1.f6, .string s.f1.f7, .int .i64 s.f2, .int .i64 s.f3, .string s.f4, .string s.f5, .string s.f6, .slice none 0 0] 72)) (.cells #[.func (.func 38) #[.pointer (some ⟨w2.heap.size, 0, none⟩)] #[], .func (.func 39) #[.pointer (some ⟨w2.heap.size, 0, none⟩)] #[], .func (.func 39) #[.pointer (some ⟨w2.heap.size, 0, none⟩)] #[], .func (.func 40) #[.pointer (some ⟨w2.heap.size, 0, none⟩)] #[], .func (.func 41) #[.pointer (some ⟨w2.heap.size, 0, none⟩)] #[], .func (.func 42) #[.pointer (some ⟨w2.heap.size, 0, none⟩)] #[]] 74))
      have HA0 := heap_alloc_new (w2.alloc (.cells #[.int .i64 s.f0, .string s.f1.f0, .string s.f1.f1, .int .u8 s.f1.f2, .int .i64 s.f1.f3, .int .i64 s.f1.f4, .int .i64 s.f1.f5, .int .i64 s.f1.f6, .string s.f1.f7, .int .i64 s.f2, .int .i64 s.f3, .string s.f4, .string s.f5, .string s.f6, .slice none 0 0] 72)) (.cells #[.func (.func 38) #[.pointer (some ⟨w2.heap.size, 0, none⟩)] #[], .func (.func 39) #[.pointer (some ⟨w2.heap.size, 0, none⟩)] #[], .func (.func 39) #[.pointer (some ⟨w2.heap.size, 0, none⟩)] #[], .func (.func 40) #[.pointer (some ⟨w2.heap.size, 0, none⟩)] #[], .func (.func 41) #[.pointer (some ⟨w2.heap.size, 0, none⟩)] #[], .func (.func 42) #[.pointer (some ⟨w2.heap.size, 0, none⟩)] #[]] 74)
      simp only [World.size_alloc] at HA0
      have HA5 := Aside0.mk HA0
      have HS5 := Aside0.mk ((HS2.out.step (below_alloc (Below.refl _ _) (.cells #[.int .i64 s.f0, .string s.f1.f0, .string s.f1.f1, .int .u8 s.f1.f2, .int .i64 s.f1.f3, .int .i64 s.f1.f4, .int .i64 s.f1.f5, .int .i64 s.f1.f6, .string s.f1.f7, .int .i64 s.f2, .int .i64 s.f3, .string s.f4, .string s.f5, .string s.f6, .slice none 0 0] 72))).step (below_alloc (Below.refl _ _) (.cells #[.func (.func 38) #[.pointer (some ⟨w2.heap.size, 0, none⟩)] #[], .func (.func 39) #[.pointer (some ⟨w2.heap.size, 0, none⟩)] #[], .func (.func 39) #[.pointer (some ⟨w2.heap.size, 0, none⟩)] #[], .func (.func 40) #[.pointer (some ⟨w2.heap.size, 0, none⟩)] #[], .func (.func 41) #[.pointer (some ⟨w2.heap.size, 0, none⟩)] #[], .func (.func 42) #[.pointer (some ⟨w2.heap.size, 0, none⟩)] #[]] 74)))
      have HC5 := Aside0.mk (Kd.C_alloc (Kd.C_alloc HC2.out (.cells #[.int .i64 s.f0, .string s.f1.f0, .string s.f1.f1, .int .u8 s.f1.f2, .int .i64 s.f1.f3, .int .i64 s.f1.f4, .int .i64 s.f1.f5, .int .i64 s.f1.f6, .string s.f1.f7, .int .i64 s.f2, .int .i64 s.f3, .string s.f4, .string s.f5, .string s.f6, .slice none 0 0] 72)) (.cells #[.func (.func 38) #[.pointer (some ⟨w2.heap.size, 0, none⟩)] #[], .func (.func 39) #[.pointer (some ⟨w2.heap.size, 0, none⟩)] #[], .func (.func 39) #[.pointer (some ⟨w2.heap.size, 0, none⟩)] #[], .func (.func 40) #[.pointer (some ⟨w2.heap.size, 0, none⟩)] #[], .func (.func 41) #[.pointer (some ⟨w2.heap.size, 0, none⟩)] #[], .func (.func 42) #[.pointer (some ⟨w2.heap.size, 0, none⟩)] #[]] 74))
      have HB5 := Aside0.mk (blk_lt HS2.out.he)
      clear HA0
      obtain ⟨W5, hW5⟩ : ∃ W', (w2.alloc (.cells #[.int .i64 s.f0, .string s.f1.f0, .string s.f1.f1, .int .u8 s.f1.f2, .int .i64 s.f1.f3, .int .i64 s.f1.f4, .int .i64 s.f1.f5, .int .i64 s.f1.f6, .string s.f1.f7, .int .i64 s.f2, .int .i64 s.f3, .string s.f4, .string s.f5, .string s.f6, .slice none 0 0] 72)).alloc (.cells #[.func (.func 38) #[.pointer (some ⟨w2.heap.size, 0, none⟩)] #[], .func (.func 39) #[.pointer (some ⟨w2.heap.size, 0, none⟩)] #[], .func (.func 39) #[.pointer (some ⟨w2.heap.size, 0, none⟩)] #[], .func (.func 40) #[.pointer (some ⟨w2.heap.size, 0, none⟩)] #[], .func (.func 41) #[.pointer (some ⟨w2.heap.size, 0, none⟩)] #[], .func (.func 42) #[.pointer (some ⟨w2.heap.size, 0, none⟩)] #[]] 74) = W' := ⟨_, rfl⟩
      rw [hW5] at HP0 HA5 HS5 HC5 ⊢
      clear hW5
      obtain ⟨bp, hbp⟩ : ∃ k, w2.heap.size = k := ⟨_, rfl⟩
      rw [hbp] at HP0 HA5 HB5 ⊢
      clear hbp HS2 HC2
      have HP5 := Aside0.mk (PAt.start W5 bp s HP0.out)
      have hph := may_phase hm
      clear hm hmay HC HP0 HS0
      cases res with
      | error q =>
        rcases hph with hp | ⟨hp, u1, u2⟩ | ⟨hp, u1, u2⟩ | ⟨hp, u1, u2⟩ | hp | hp
        · have z0 := (blk_cell HS5.out.hs 0).trans (show _ = some (Value.int .i64 0) from by rw [← hp]; rfl)
          have za := (blk_cell HA5.out 0).trans (show _ = some (Value.func (.func 38) #[.pointer (some ⟨bp, 0, none⟩)] #[]) from rfl)
          rw [if_pos hp] at hres
          have hcall := phead.at_ W5 bp s [] none 0 B d x W5 ⟨hs.1, hs.2.1⟩ (by decide) HP5.out HC5.out hd HX.out hby
          rw [hres] at hcall
          clear hp hres
          go_wp2_with (go_at_call 38; refine hcall.mono ?_; rintro e_ w6 ⟨rfl, hT⟩; have HT6 := Aside0.mk hT; clear hT)
          exact step_fails (HS5.out.turn HB5.out HT6.out) q _ rfl rfl rfl
        · have z0 := (blk_cell HS5.out.hs 0).trans (show _ = some (Value.int .i64 1) from by rw [← hp]; rfl)
          have za := (blk_cell HA5.out 1).trans (show _ = some (Value.func (.func 39) #[.pointer (some ⟨bp, 0, none⟩)] #[]) from rfl)
          rw [if_neg (show ¬ s.f0 = 0 by omega), if_pos hp] at hres
          have hcall := pname.at_ W5 bp s [] none 0 B d x W5 u1 u2 HP5.out HC5.out hd HX.out hby
          rw [hres] at hcall
          clear hp hres u1 u2
          go_wp2_with (go_at_call 39; refine hcall.mono ?_; rintro e_ w6 ⟨rfl, hT⟩; have HT6 := Aside0.mk hT; clear hT)
          exact step_fails (HS5.out.turn HB5.out HT6.out) q _ rfl rfl rfl
        · have z0 := (blk_cell HS5.out.hs 0).trans (show _ = some (Value.int .i64 2) from by rw [← hp]; rfl)
          have za := (blk_cell HA5.out 2).trans (show _ = some (Value.func (.func 39) #[.pointer (some ⟨bp, 0, none⟩)] #[]) from rfl)
          rw [if_neg (show ¬ s.f0 = 0 by omega), if_neg (show ¬ s.f0 = 1 by omega), if_pos hp] at hres
          have hcall := pname.at_ W5 bp s [] none 0 B d x W5 u1 u2 HP5.out HC5.out hd HX.out hby
          rw [hres] at hcall
          clear hp hres u1 u2
          go_wp2_with (go_at_call 39; refine hcall.mono ?_; rintro e_ w6 ⟨rfl, hT⟩; have HT6 := Aside0.mk hT; clear hT)
          exact step_fails (HS5.out.turn HB5.out HT6.out) q _ rfl rfl rfl
        · have z0 := (blk_cell HS5.out.hs 0).trans (show _ = some (Value.int .i64 3) from by rw [← hp]; rfl)
          have za := (blk_cell HA5.out 3).trans (show _ = some (Value.func (.func 40) #[.pointer (some ⟨bp, 0, none⟩)] #[]) from rfl)
          rw [if_neg (show ¬ s.f0 = 0 by omega), if_neg (show ¬ s.f0 = 1 by omega), if_neg (show ¬ s.f0 = 2 by omega), if_pos hp] at hres
          have hcall := pdata.at_ W5 bp s [] none 0 B d x W5 (by decide) u1 u2 HP5.out HC5.out hd HX.out hby
          rw [hres] at hcall
          clear hp hres u1 u2
          go_wp2_with (go_at_call 40; refine hcall.mono ?_; rintro e_ w6 ⟨rfl, hT⟩; have HT6 := Aside0.mk hT; clear hT)
          exact step_fails (HS5.out.turn HB5.out HT6.out) q _ rfl rfl rfl
        · have z0 := (blk_cell HS5.out.hs 0).trans (show _ = some (Value.int .i64 4) from by rw [← hp]; rfl)
          have za := (blk_cell HA5.out 4).trans (show _ = some (Value.func (.func 41) #[.pointer (some ⟨bp, 0, none⟩)] #[]) from rfl)
          rw [if_neg (show ¬ s.f0 = 0 by omega), if_neg (show ¬ s.f0 = 1 by omega), if_neg (show ¬ s.f0 = 2 by omega), if_neg (show ¬ s.f0 = 3 by omega), if_pos hp] at hres
          have hcall := pzero.at_ W5 bp s [] none 0 B d x W5 HP5.out HC5.out hd HX.out hby
          rw [hres] at hcall
          clear hp hres
          go_wp2_with (go_at_call 41; refine hcall.mono ?_; rintro e_ w6 ⟨rfl, hT⟩; have HT6 := Aside0.mk hT; clear hT)
          exact step_fails (HS5.out.turn HB5.out HT6.out) q _ rfl rfl rfl
        · have z0 := (blk_cell HS5.out.hs 0).trans (show _ = some (Value.int .i64 5) from by rw [← hp]; rfl)
          have za := (blk_cell HA5.out 5).trans (show _ = some (Value.func (.func 42) #[.pointer (some ⟨bp, 0, none⟩)] #[]) from rfl)
          rw [if_neg (show ¬ s.f0 = 0 by omega), if_neg (show ¬ s.f0 = 1 by omega), if_neg (show ¬ s.f0 = 2 by omega), if_neg (show ¬ s.f0 = 3 by omega), if_neg (show ¬ s.f0 = 4 by omega)] at hres
          have hcall := pend.at_ W5 bp (.slice B x.length d) W5 (Turn.refl _ _)
          rw [hres] at hcall
          clear hp hres
          go_wp2_with (go_at_call 42; refine hcall.mono ?_; rintro e_ w6 ⟨rfl, hT⟩; have HT6 := Aside0.mk hT; clear hT)
          exact step_fails (HS5.out.turn HB5.out HT6.out) q _ rfl rfl rfl
      | ok r =>
        obtain ⟨t, l⟩ := r
        go_cut [7] from 34 to 39 (fun v7 wc => v7 = .pointer (some ⟨bp, 0, none⟩) ∧ ∃ A6 c6, Aside0 (PAt W5 bp t l A6 c6 wc))
        case first =>
          rcases hph with hp | ⟨hp, u1, u2⟩ | ⟨hp, u1, u2⟩ | ⟨hp, u1, u2⟩ | hp | hp
          · have z0 := (blk_cell HS5.out.hs 0).trans (show _ = some (Value.int .i64 0) from by rw [← hp]; rfl)
            have za := (blk_cell HA5.out 0).trans (show _ = some (Value.func (.func 38) #[.pointer (some ⟨bp, 0, none⟩)] #[]) from rfl)
            rw [if_pos hp] at hres
            have hcall := phead.at_ W5 bp s [] none 0 B d x W5 ⟨hs.1, hs.2.1⟩ (by decide) HP5.out HC5.out hd HX.out hby
            rw [hres] at hcall
            clear hp hres
            go_wp2_with (go_at_call 38; refine hcall.mono ?_; rintro e_ w6 ⟨rfl, A6, c6, G6⟩; have HG6 := Aside0.mk G6; clear G6)
            go_meet
            case rel => exact ⟨rfl, A6, c6, HG6⟩
          · have z0 := (blk_cell HS5.out.hs 0).trans (show _ = some (Value.int .i64 1) from by rw [← hp]; rfl)
            have za := (blk_cell HA5.out 1).trans (show _ = some (Value.func (.func 39) #[.pointer (some ⟨bp, 0, none⟩)] #[]) from rfl)
            rw [if_neg (show ¬ s.f0 = 0 by omega), if_pos hp] at hres
            have hcall := pname.at_ W5 bp s [] none 0 B d x W5 u1 u2 HP5.out HC5.out hd HX.out hby
            rw [hres] at hcall
            clear hp hres u1 u2
            go_wp2_with (go_at_call 39; refine hcall.mono ?_; rintro e_ w6 ⟨rfl, A6, c6, G6⟩; have HG6 := Aside0.mk G6; clear G6)
            go_meet
            case rel => exact ⟨rfl, A6, c6, HG6⟩
          · have z0 := (blk_cell HS5.out.hs 0).trans (show _ = some (Value.int .i64 2) from by rw [← hp]; rfl)
            have za := (blk_cell HA5.out 2).trans (show _ = some (Value.func (.func 39) #[.pointer (some ⟨bp, 0, none⟩)] #[]) from rfl)
            rw [if_neg (show ¬ s.f0 = 0 by omega), if_neg (show ¬ s.f0 = 1 by omega), if_pos hp] at hres
            have hcall := pname.at_ W5 bp s [] none 0 B d x W5 u1 u2 HP5.out HC5.out hd HX.out hby
            rw [hres] at hcall
            clear hp hres u1 u2
            go_wp2_with (go_at_call 39; refine hcall.mono ?_; rintro e_ w6 ⟨rfl, A6, c6, G6⟩; have HG6 := Aside0.mk G6; clear G6)
            go_meet
            case rel => exact ⟨rfl, A6, c6, HG6⟩
          · have z0 := (blk_cell HS5.out.hs 0).trans (show _ = some (Value.int .i64 3) from by rw [← hp]; rfl)
            have za := (blk_cell HA5.out 3).trans (show _ = some (Value.func (.func 40) #[.pointer (some ⟨bp, 0, none⟩)] #[]) from rfl)
            rw [if_neg (show ¬ s.f0 = 0 by omega), if_neg (show ¬ s.f0 = 1 by omega), if_neg (show ¬ s.f0 = 2 by omega), if_pos hp] at hres
            have hcall := pdata.at_ W5 bp s [] none 0 B d x W5 (by decide) u1 u2 HP5.out HC5.out hd HX.out hby
            rw [hres] at hcall
            clear hp hres u1 u2
            go_wp2_with (go_at_call 40; refine hcall.mono ?_; rintro e_ w6 ⟨rfl, A6, c6, G6⟩; have HG6 := Aside0.mk G6; clear G6)
            go_meet
            case rel => exact ⟨rfl, A6, c6, HG6⟩
          · have z0 := (blk_cell HS5.out.hs 0).trans (show _ = some (Value.int .i64 4) from by rw [← hp]; rfl)
            have za := (blk_cell HA5.out 4).trans (show _ = some (Value.func (.func 41) #[.pointer (some ⟨bp, 0, none⟩)] #[]) from rfl)
            rw [if_neg (show ¬ s.f0 = 0 by omega), if_neg (show ¬ s.f0 = 1 by omega), if_neg (show ¬ s.f0 = 2 by omega), if_neg (show ¬ s.f0 = 3 by omega), if_pos hp] at hres
            have hcall := pzero.at_ W5 bp s [] none 0 B d x W5 HP5.out HC5.out hd HX.out hby
            rw [hres] at hcall
            clear hp hres
            go_wp2_with (go_at_call 41; refine hcall.mono ?_; rintro e_ w6 ⟨rfl, A6, c6, G6⟩; have HG6 := Aside0.mk G6; clear G6)
            go_meet
            case rel => exact ⟨rfl, A6, c6, HG6⟩
          · rw [if_neg (show ¬ s.f0 = 0 by omega), if_neg (show ¬ s.f0 = 1 by omega), if_neg (show ¬ s.f0 = 2 by omega), if_neg (show ¬ s.f0 = 3 by omega), if_neg (show ¬ s.f0 = 4 by omega)] at hres
            cases hres
        case rest =>
          obtain ⟨rfl, A6, c6, G6⟩ := hcut
          have HS6 := Aside0.mk (HS5.out.turn HB5.out G6.out.turn)
          have HLO := Aside0.mk (show w.heap.size + 1 < W5.heap.size from by have h1 := blk_lt HS5.out.ht; exact h1)
          have HLO3 := Aside0.mk (show w.heap.size + 1 + 1 + 1 < W5.heap.size from blk_lt HS5.out.he)
          have HWL := Aside0.mk (show w.heap.size ≤ W5.heap.size from HS5.out.bel.size)
          clear HA5 HC5 hph hres
          go_upto_region 6 with (fail)
          refine region_calm2 ?_
          refine start_ (n := 11) (S := fun w' => w'.heap[bp]? = some (.cells #[.int .i64 t.f0, .string t.f1.f0, .string t.f1.f1, .int .u8 t.f1.f2, .int .i64 t.f1.f3, .int .i64 t.f1.f4, .int .i64 t.f1.f5, .int .i64 t.f1.f6, .string t.f1.f7, .int .i64 t.f2, .int .i64 t.f3, .string t.f4, .string t.f5, .string t.f6, .slice A6 l.length c6] 72 (0, 0))) (ds := []) #[false, false, false, false, false, false, false, false, false, false, false] (by kernel_rfl) rfl rfl G6.out.box (fun hHeld => ?_)
          refine pure_ (i := 0) (N := some 40) (v := ?_) (a' := ?_) #[true, false, false, false, false, false, false, false, false, false, false] rfl rfl (by kernel_rfl) (fun _ _ _ h => h) (Or.inl ⟨by rfl, ?_⟩) ?_ ?_
          rotate_left
          · intro w'
            go_simp
            with_reducible rfl
          rotate_left
          · aput
            rfl
          refine pure_ (i := 1) (N := some 41) (v := ?_) (a' := ?_) #[true, true, false, false, false, false, false, false, false, false, false] rfl rfl (by kernel_rfl) (fun _ _ _ h => h) (Or.inl ⟨by rfl, ?_⟩) ?_ ?_
          rotate_left
          · intro w'
            go_simp
            with_reducible rfl
          rotate_left
          · aput
            rfl
          refine pure_ (i := 2) (N := some 42) (v := ?_) (a' := ?_) #[true, true, true, false, false, false, false, false, false, false, false] rfl rfl (by kernel_rfl) (fun _ _ _ h => h) (Or.inl ⟨by rfl, ?_⟩) ?_ ?_
          rotate_left
          · intro w'
            go_simp
            with_reducible rfl
          rotate_left
          · aput
            rfl
          refine take_ (i := 3) (N := some 43) (v := ?_) (a' := ?_) #[true, true, true, true, false, false, false, false, false, false, false] rfl rfl (by kernel_rfl) (fun _ _ _ h => h) (Or.inl ⟨by rfl, ?_⟩) hHeld ?_ ?_
          rotate_left
          · intro w' hS_
            have q0 := (blk_cell hS_ 0).trans (show _ = some (Value.int .i64 t.f0) from rfl)
            have q1 := (blk_cell hS_ 1).trans (show _ = some (Value.string t.f1.f0) from rfl)
            have q2 := (blk_cell hS_ 2).trans (show _ = some (Value.string t.f1.f1) from rfl)
            have q3 := (blk_cell hS_ 3).trans (show _ = some (Value.int .u8 t.f1.f2) from rfl)
            have q4 := (blk_cell hS_ 4).trans (show _ = some (Value.int .i64 t.f1.f3) from rfl)
            have q5 := (blk_cell hS_ 5).trans (show _ = some (Value.int .i64 t.f1.f4) from rfl)
            have q6 := (blk_cell hS_ 6).trans (show _ = some (Value.int .i64 t.f1.f5) from rfl)
            have q7 := (blk_cell hS_ 7).trans (show _ = some (Value.int .i64 t.f1.f6) from rfl)
            have q8 := (blk_cell hS_ 8).trans (show _ = some (Value.string t.f1.f7) from rfl)
            have q9 := (blk_cell hS_ 9).trans (show _ = some (Value.int .i64 t.f2) from rfl)
            have q10 := (blk_cell hS_ 10).trans (show _ = some (Value.int .i64 t.f3) from rfl)
            have q11 := (blk_cell hS_ 11).trans (show _ = some (Value.string t.f4) from rfl)
            have q12 := (blk_cell hS_ 12).trans (show _ = some (Value.string t.f5) from rfl)
            have q13 := (blk_cell hS_ 13).trans (show _ = some (Value.string t.f6) from rfl)
            have q14 := (blk_cell hS_ 14).trans (show _ = some (Value.slice A6 l.length c6) from rfl)
            go_simp
            with_reducible rfl
          rotate_left
          · aput
            rfl
          refine pure_ (i := 4) (N := some 44) (v := ?_) (a' := ?_) #[true, true, true, true, true, false, false, false, false, false, false] rfl rfl (by kernel_rfl) (fun _ _ _ h => h) (Or.inl ⟨by rfl, ?_⟩) ?_ ?_
          rotate_left
          · intro w'
            go_simp
            with_reducible rfl
          rotate_left
          · aput
            rfl
          refine pure_ (i := 5) (N := some 45) (v := ?_) (a' := ?_) #[true, true, true, true, true, true, false, false, false, false, false] rfl rfl (by kernel_rfl) (fun _ _ _ h => h) (Or.inl ⟨by rfl, ?_⟩) ?_ ?_
          rotate_left
          · intro w'
            go_simp
            with_reducible rfl
          rotate_left
          · aput
            rfl
          refine pure_ (i := 6) (N := some 46) (v := ?_) (a' := ?_) #[true, true, true, true, true, true, true, false, false, false, false] rfl rfl (by kernel_rfl) (fun _ _ _ h => h) (Or.inl ⟨by rfl, ?_⟩) ?_ ?_
          rotate_left
          · intro w'
            go_simp
            with_reducible rfl
          rotate_left
          · aput
            rfl
          refine take_ (i := 7) (N := some 47) (v := ?_) (a' := ?_) #[true, true, true, true, true, true, true, true, false, false, false] rfl rfl (by kernel_rfl) (fun _ _ _ h => h) (Or.inl ⟨by rfl, ?_⟩) hHeld ?_ ?_
          rotate_left
          · intro w' hS_
            have q0 := (blk_cell hS_ 0).trans (show _ = some (Value.int .i64 t.f0) from rfl)
            have q1 := (blk_cell hS_ 1).trans (show _ = some (Value.string t.f1.f0) from rfl)
            have q2 := (blk_cell hS_ 2).trans (show _ = some (Value.string t.f1.f1) from rfl)
            have q3 := (blk_cell hS_ 3).trans (show _ = some (Value.int .u8 t.f1.f2) from rfl)
            have q4 := (blk_cell hS_ 4).trans (show _ = some (Value.int .i64 t.f1.f3) from rfl)
            have q5 := (blk_cell hS_ 5).trans (show _ = some (Value.int .i64 t.f1.f4) from rfl)
            have q6 := (blk_cell hS_ 6).trans (show _ = some (Value.int .i64 t.f1.f5) from rfl)
            have q7 := (blk_cell hS_ 7).trans (show _ = some (Value.int .i64 t.f1.f6) from rfl)
            have q8 := (blk_cell hS_ 8).trans (show _ = some (Value.string t.f1.f7) from rfl)
            have q9 := (blk_cell hS_ 9).trans (show _ = some (Value.int .i64 t.f2) from rfl)
            have q10 := (blk_cell hS_ 10).trans (show _ = some (Value.int .i64 t.f3) from rfl)
            have q11 := (blk_cell hS_ 11).trans (show _ = some (Value.string t.f4) from rfl)
            have q12 := (blk_cell hS_ 12).trans (show _ = some (Value.string t.f5) from rfl)
            have q13 := (blk_cell hS_ 13).trans (show _ = some (Value.string t.f6) from rfl)
            have q14 := (blk_cell hS_ 14).trans (show _ = some (Value.slice A6 l.length c6) from rfl)
            go_simp
            with_reducible rfl
          rotate_left
          · aput
            rfl
          have HT := Aside0.mk (HS6.out.step (below_drew (Below.refl _ _)))
          have HR := Aside0.mk (Kd.R_drew G6.out.row)
          have HBX := Aside0.mk (blk_drew G6.out.box)
          obtain ⟨V1, hV1⟩ : ∃ W', wc.drew = W' := ⟨_, rfl⟩
          rw [hV1] at HT HR HBX hHeld ⊢
          clear hV1
          have z0 := (blk_cell HT.out.ht 0).trans (show _ = some (Value.int .i64 0) from rfl)
          have y0 := blk_frozen HT.out.ht 0
          have z1 := (blk_cell HT.out.ht 1).trans (show _ = some (Value.string ⟨#[]⟩) from rfl)
          have y1 := blk_frozen HT.out.ht 1
          have z2 := (blk_cell HT.out.ht 2).trans (show _ = some (Value.string ⟨#[]⟩) from rfl)
          have y2 := blk_frozen HT.out.ht 2
          have z3 := (blk_cell HT.out.ht 3).trans (show _ = some (Value.int .u8 0) from rfl)
          have y3 := blk_frozen HT.out.ht 3
          have z4 := (blk_cell HT.out.ht 4).trans (show _ = some (Value.int .i64 0) from rfl)
          have y4 := blk_frozen HT.out.ht 4
          have z5 := (blk_cell HT.out.ht 5).trans (show _ = some (Value.int .i64 0) from rfl)
          have y5 := blk_frozen HT.out.ht 5
          have z6 := (blk_cell HT.out.ht 6).trans (show _ = some (Value.int .i64 0) from rfl)
          have y6 := blk_frozen HT.out.ht 6
          have z7 := (blk_cell HT.out.ht 7).trans (show _ = some (Value.int .i64 0) from rfl)
          have y7 := blk_frozen HT.out.ht 7
          have z8 := (blk_cell HT.out.ht 8).trans (show _ = some (Value.string ⟨#[]⟩) from rfl)
          have y8 := blk_frozen HT.out.ht 8
          have z9 := (blk_cell HT.out.ht 9).trans (show _ = some (Value.int .i64 0) from rfl)
          have y9 := blk_frozen HT.out.ht 9
          have z10 := (blk_cell HT.out.ht 10).trans (show _ = some (Value.int .i64 0) from rfl)
          have y10 := blk_frozen HT.out.ht 10
          have z11 := (blk_cell HT.out.ht 11).trans (show _ = some (Value.string ⟨#[]⟩) from rfl)
          have y11 := blk_frozen HT.out.ht 11
          have z12 := (blk_cell HT.out.ht 12).trans (show _ = some (Value.string ⟨#[]⟩) from rfl)
          have y12 := blk_frozen HT.out.ht 12
          have z13 := (blk_cell HT.out.ht 13).trans (show _ = some (Value.string ⟨#[]⟩) from rfl)
          have y13 := blk_frozen HT.out.ht 13
          refine one_ (i := 8) (N := none) #[true, true, true, true, true, true, true, true, true, false, false] rfl rfl (by kernel_rfl) (by decide) (fun K hK => ?_)
          rw [if_pos (by rfl)]
          go_simp
          clear z0 y0 z1 y1 z2 y2 z3 y3 z4 y4 z5 y5 z6 y6 z7 y7 z8 y8 z9 y9 z10 y10 z11 y11 z12 y12 z13 y13
          have S1 := Aside0.mk (StepAt.put HT.out t)
          have R1 := Aside0.mk (low14 HR.out (g := w.heap.size + 1) HLO.out t)
          have HBX := Aside0.mk (far14 HBX.out (g := w.heap.size + 1) (by have h_ := HB5.out; omega) t)
          obtain ⟨V2, hV2⟩ : ∃ W', ((((((((((((((V1.setCell ⟨w.heap.size + 1, 0, none⟩ (.int .i64 t.f0)).setCell ⟨w.heap.size + 1, 1, none⟩ (.string t.f1.f0)).setCell ⟨w.heap.size + 1, 2, none⟩ (.string t.f1.f1)).setCell ⟨w.heap.size + 1, 3, none⟩ (.int .u8 t.f1.f2)).setCell ⟨w.heap.size + 1, 4, none⟩ (.int .i64 t.f1.f3)).setCell ⟨w.heap.size + 1, 5, none⟩ (.int .i64 t.f1.f4)).setCell ⟨w.heap.size + 1, 6, none⟩ (.int .i64 t.f1.f5)).setCell ⟨w.heap.size + 1, 7, none⟩ (.int .i64 t.f1.f6)).setCell ⟨w.heap.size + 1, 8, none⟩ (.string t.f1.f7)).setCell ⟨w.heap.size + 1, 9, none⟩ (.int .i64 t.f2)).setCell ⟨w.heap.size + 1, 10, none⟩ (.int .i64 t.f3)).setCell ⟨w.heap.size + 1, 11, none⟩ (.string t.f4)).setCell ⟨w.heap.size + 1, 12, none⟩ (.string t.f5)).setCell ⟨w.heap.size + 1, 13, none⟩ (.string t.f6)) = W' := ⟨_, rfl⟩
          rw [hV2] at S1 R1 HBX ⊢
          clear hV2 HT HR
          refine hK.out _ _ HBX.out (fun hHeld => ?_)
          clear hK K
          have z := (blk_cell S1.out.hl 0).trans (show _ = some (Value.slice none 0 0) from rfl)
          have y := blk_frozen S1.out.hl 0
          refine one_ (i := 9) (N := none) #[true, true, true, true, true, true, true, true, true, true, false] rfl rfl (by kernel_rfl) (by decide) (fun K hK => ?_)
          rw [if_pos (by rfl)]
          go_simp
          clear z y
          have S2 := Aside0.mk (StepAt.putl S1.out (.slice A6 l.length c6))
          have R2 := Aside0.mk (R_low R1.out (p := ⟨w.heap.size + 1 + 1, 0, none⟩) (by have h_ := HLO3.out; show w.heap.size + 1 + 1 < _; omega) (.slice A6 l.length c6))
          have HBX := Aside0.mk (blk_far HBX.out (p := ⟨w.heap.size + 1 + 1, 0, none⟩) (by have h_ := HB5.out; show bp ≠ w.heap.size + 1 + 1; omega) (.slice A6 l.length c6))
          obtain ⟨V3, hV3⟩ : ∃ W', V2.setCell ⟨w.heap.size + 1 + 1, 0, none⟩ (.slice A6 l.length c6) = W' := ⟨_, rfl⟩
          rw [hV3] at S2 R2 HBX ⊢
          clear hV3 S1 R1
          refine hK.out _ _ HBX.out (fun hHeld => ?_)
          clear hK K
          have z := (blk_cell S2.out.he 0).trans (show _ = some (Value.int .i64 0) from rfl)
          have y := blk_frozen S2.out.he 0
          refine one_ (i := 10) (N := none) #[true, true, true, true, true, true, true, true, true, true, true] rfl rfl (by kernel_rfl) (by decide) (fun K hK => ?_)
          rw [if_pos (by rfl)]
          go_simp
          clear z y
          have S3 := Aside0.mk (StepAt.pute S2.out 0)
          have R3 := Aside0.mk (R_low R2.out (p := ⟨w.heap.size + 1 + 1 + 1, 0, none⟩) (by have h_ := HLO3.out; show w.heap.size + 1 + 1 + 1 < _; omega) (.int .i64 0))
          have HBX := Aside0.mk (blk_far HBX.out (p := ⟨w.heap.size + 1 + 1 + 1, 0, none⟩) (by have h_ := HB5.out; show bp ≠ w.heap.size + 1 + 1 + 1; omega) (.int .i64 0))
          clear S2 R2
          refine hK.out _ _ HBX.out (fun hHeld => ?_)
          clear hK K
          refine done_ (by kernel_rfl) ?_
          simp only [calm2]
          go_wp2_with (fail)
          exact step_goes S3.out (Kd.R_lower R3.out HWL.out) _ rfl rfl rfl
    · have hx1 : ((x.length : Int) == 512) = false := beq_eq_false_iff_ne.2 (by omega)
      rw [if_neg (by rw [decide_eq_false hx]; decide)] at hres
      clear hx
      go_wp2_with (first | (go_at_call 37; (with_reducible refine (hmay _).mono ?_); rintro e_ w2 ⟨rfl, hb_⟩; have HS2 := Aside0.mk (HS0.out.step hb_); have HC2 := Aside0.mk (Kd.C_below (Kd.C_below HC.out HS0.out.bel) hb_); clear hb_) | (go_at_call 36; (with_reducible refine (must_no 1 _).mono ?_); rintro e_ w_ ⟨rfl, rfl⟩))
      subst hres
      exact step_fails HS2.out 1 _ rfl rfl rfl
end
end Go.Proofs.YtpedagpcblnnhaaGreat.X
