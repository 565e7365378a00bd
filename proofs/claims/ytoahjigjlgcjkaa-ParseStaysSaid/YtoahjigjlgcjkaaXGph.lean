import Derived.Test.YtoahjigjlgcjkaaXK
import Derived.Test.YtoahjigjlgcjkaaXGpb
import Derived.Test.YtoahjigjlgcjkaaYAll
import Derived.Deep.RegionHeld3
import Derived.Laws.EntriesVeiled
import Derived.Laws.Pointers
import Derived.Recover
import Derived.WalkSpells
namespace Go.Proofs.Ytoahjigjlgcjkaa.X
open Go.RowKit Go.Proofs.YtoahjigjlgcjkaaW.PrintWords Go.Proofs.YtoahjigjlgcjkaaW.PrintLast Go.Proofs.YtoahjigjlgcjkaaW.PrintMore
attribute [local go_sem] max2_int min2_int max_two min_two
set_option linter.unusedVariables false
set_option linter.unusedSimpArgs false

open Go.Proofs.YtoahjigjlgcjkaaY
set_option maxRecDepth 100000
theorem set14 {S : Nat → Prop} {w W : World} {g : Nat} {t : Pst} (h : W.heap[g]? = some (.cells #[.int .i64 t.f0, .string t.f1.f0, .string t.f1.f1, .int .u8 t.f1.f2, .int .i64 t.f1.f3, .int .i64 t.f1.f4, .int .i64 t.f1.f5, .int .i64 t.f1.f6, .string t.f1.f7, .int .i64 t.f2, .int .i64 t.f3, .string t.f4, .string t.f5, .string t.f6] 25 (0, 0))) (hT : Turn S w W) (hg : S g) (s : Pst) : (((((((((((((((W.setCell ⟨g, 0, none⟩ (.int .i64 s.f0)).setCell ⟨g, 1, none⟩ (.string s.f1.f0)).setCell ⟨g, 2, none⟩ (.string s.f1.f1)).setCell ⟨g, 3, none⟩ (.int .u8 s.f1.f2)).setCell ⟨g, 4, none⟩ (.int .i64 s.f1.f3)).setCell ⟨g, 5, none⟩ (.int .i64 s.f1.f4)).setCell ⟨g, 6, none⟩ (.int .i64 s.f1.f5)).setCell ⟨g, 7, none⟩ (.int .i64 s.f1.f6)).setCell ⟨g, 8, none⟩ (.string s.f1.f7)).setCell ⟨g, 9, none⟩ (.int .i64 s.f2)).setCell ⟨g, 10, none⟩ (.int .i64 s.f3)).setCell ⟨g, 11, none⟩ (.string s.f4)).setCell ⟨g, 12, none⟩ (.string s.f5)).setCell ⟨g, 13, none⟩ (.string s.f6))).heap[g]? = some (.cells #[.int .i64 s.f0, .string s.f1.f0, .string s.f1.f1, .int .u8 s.f1.f2, .int .i64 s.f1.f3, .int .i64 s.f1.f4, .int .i64 s.f1.f5, .int .i64 s.f1.f6, .string s.f1.f7, .int .i64 s.f2, .int .i64 s.f3, .string s.f4, .string s.f5, .string s.f6] 25 (0, 0)) ∧ Turn S w (((((((((((((((W.setCell ⟨g, 0, none⟩ (.int .i64 s.f0)).setCell ⟨g, 1, none⟩ (.string s.f1.f0)).setCell ⟨g, 2, none⟩ (.string s.f1.f1)).setCell ⟨g, 3, none⟩ (.int .u8 s.f1.f2)).setCell ⟨g, 4, none⟩ (.int .i64 s.f1.f3)).setCell ⟨g, 5, none⟩ (.int .i64 s.f1.f4)).setCell ⟨g, 6, none⟩ (.int .i64 s.f1.f5)).setCell ⟨g, 7, none⟩ (.int .i64 s.f1.f6)).setCell ⟨g, 8, none⟩ (.string s.f1.f7)).setCell ⟨g, 9, none⟩ (.int .i64 s.f2)).setCell ⟨g, 10, none⟩ (.int .i64 s.f3)).setCell ⟨g, 11, none⟩ (.string s.f4)).setCell ⟨g, 12, none⟩ (.string s.f5)).setCell ⟨g, 13, none⟩ (.string s.f6))) := by
  refine ⟨(blk_set (blk_set (blk_set (blk_set (blk_set (blk_set (blk_set (blk_set (blk_set (blk_set (blk_set (blk_set (blk_set (blk_set (h) 0 (.int .i64 s.f0)) 1 (.string s.f1.f0)) 2 (.string s.f1.f1)) 3 (.int .u8 s.f1.f2)) 4 (.int .i64 s.f1.f3)) 5 (.int .i64 s.f1.f4)) 6 (.int .i64 s.f1.f5)) 7 (.int .i64 s.f1.f6)) 8 (.string s.f1.f7)) 9 (.int .i64 s.f2)) 10 (.int .i64 s.f3)) 11 (.string s.f4)) 12 (.string s.f5)) 13 (.string s.f6)).trans ?_, ((((((((((((((hT).trans (Turn.setCell _ (p := ⟨g, 0, none⟩) (.int .i64 s.f0) hg)).trans (Turn.setCell _ (p := ⟨g, 1, none⟩) (.string s.f1.f0) hg)).trans (Turn.setCell _ (p := ⟨g, 2, none⟩) (.string s.f1.f1) hg)).trans (Turn.setCell _ (p := ⟨g, 3, none⟩) (.int .u8 s.f1.f2) hg)).trans (Turn.setCell _ (p := ⟨g, 4, none⟩) (.int .i64 s.f1.f3) hg)).trans (Turn.setCell _ (p := ⟨g, 5, none⟩) (.int .i64 s.f1.f4) hg)).trans (Turn.setCell _ (p := ⟨g, 6, none⟩) (.int .i64 s.f1.f5) hg)).trans (Turn.setCell _ (p := ⟨g, 7, none⟩) (.int .i64 s.f1.f6) hg)).trans (Turn.setCell _ (p := ⟨g, 8, none⟩) (.string s.f1.f7) hg)).trans (Turn.setCell _ (p := ⟨g, 9, none⟩) (.int .i64 s.f2) hg)).trans (Turn.setCell _ (p := ⟨g, 10, none⟩) (.int .i64 s.f3) hg)).trans (Turn.setCell _ (p := ⟨g, 11, none⟩) (.string s.f4) hg)).trans (Turn.setCell _ (p := ⟨g, 12, none⟩) (.string s.f5) hg)).trans (Turn.setCell _ (p := ⟨g, 13, none⟩) (.string s.f6) hg)⟩
  simp only [List.setIfInBounds_toArray, List.set_cons_zero, List.set_cons_succ]
theorem far14 {W : World} {g i : Nat} {cs : Array Value} {T : TypeId} (h : W.heap[i]? = some (.cells cs T (0, 0))) (hp : i ≠ g) (s : Pst) : (((((((((((((((W.setCell ⟨g, 0, none⟩ (.int .i64 s.f0)).setCell ⟨g, 1, none⟩ (.string s.f1.f0)).setCell ⟨g, 2, none⟩ (.string s.f1.f1)).setCell ⟨g, 3, none⟩ (.int .u8 s.f1.f2)).setCell ⟨g, 4, none⟩ (.int .i64 s.f1.f3)).setCell ⟨g, 5, none⟩ (.int .i64 s.f1.f4)).setCell ⟨g, 6, none⟩ (.int .i64 s.f1.f5)).setCell ⟨g, 7, none⟩ (.int .i64 s.f1.f6)).setCell ⟨g, 8, none⟩ (.string s.f1.f7)).setCell ⟨g, 9, none⟩ (.int .i64 s.f2)).setCell ⟨g, 10, none⟩ (.int .i64 s.f3)).setCell ⟨g, 11, none⟩ (.string s.f4)).setCell ⟨g, 12, none⟩ (.string s.f5)).setCell ⟨g, 13, none⟩ (.string s.f6))).heap[i]? = some (.cells cs T (0, 0)) :=
  blk_far (blk_far (blk_far (blk_far (blk_far (blk_far (blk_far (blk_far (blk_far (blk_far (blk_far (blk_far (blk_far (blk_far (h) (p := ⟨g, 0, none⟩) hp (.int .i64 s.f0)) (p := ⟨g, 1, none⟩) hp (.string s.f1.f0)) (p := ⟨g, 2, none⟩) hp (.string s.f1.f1)) (p := ⟨g, 3, none⟩) hp (.int .u8 s.f1.f2)) (p := ⟨g, 4, none⟩) hp (.int .i64 s.f1.f3)) (p := ⟨g, 5, none⟩) hp (.int .i64 s.f1.f4)) (p := ⟨g, 6, none⟩) hp (.int .i64 s.f1.f5)) (p := ⟨g, 7, none⟩) hp (.int .i64 s.f1.f6)) (p := ⟨g, 8, none⟩) hp (.string s.f1.f7)) (p := ⟨g, 9, none⟩) hp (.int .i64 s.f2)) (p := ⟨g, 10, none⟩) hp (.int .i64 s.f3)) (p := ⟨g, 11, none⟩) hp (.string s.f4)) (p := ⟨g, 12, none⟩) hp (.string s.f5)) (p := ⟨g, 13, none⟩) hp (.string s.f6)
set_option maxHeartbeats 3200000 in
theorem step1_panics (p0 p1 p2 p3 : Nat) (s t : Pst) (k k0 : Int) (v0 : Value) (older : List PanicEntry) (w : World) (h0 : w.heap[p0]? = some (.cells #[.int .i64 s.f0, .string s.f1.f0, .string s.f1.f1, .int .u8 s.f1.f2, .int .i64 s.f1.f3, .int .i64 s.f1.f4, .int .i64 s.f1.f5, .int .i64 s.f1.f6, .string s.f1.f7, .int .i64 s.f2, .int .i64 s.f3, .string s.f4, .string s.f5, .string s.f6] 25 (0, 0))) (h1 : w.heap[p1]? = some (.cells #[.int .i64 t.f0, .string t.f1.f0, .string t.f1.f1, .int .u8 t.f1.f2, .int .i64 t.f1.f3, .int .i64 t.f1.f4, .int .i64 t.f1.f5, .int .i64 t.f1.f6, .string t.f1.f7, .int .i64 t.f2, .int .i64 t.f3, .string t.f4, .string t.f5, .string t.f6] 25 (0, 0))) (h2 : w.heap[p2]? = some (.cells #[v0] 29 (0, 0))) (h3 : w.heap[p3]? = some (.cells #[.int .i64 k0] 30 (0, 0))) (hne : p1 ≠ p2 ∧ p1 ≠ p3 ∧ p2 ≠ p3 ∧ p0 ≠ p1 ∧ p0 ≠ p2 ∧ p0 ≠ p3) :
    CallsD Try.prog 24 #[.pointer (some ⟨p0, 0, none⟩), .pointer (some ⟨p1, 0, none⟩), .pointer (some ⟨p2, 0, none⟩), .pointer (some ⟨p3, 0, none⟩)] (.panicking ({ v := .iface 52 (.agg #[.int .i64 k]), recovered := false } :: older)) w fun e u' w' =>
      e = .returned (.tuple #[]) ∧ u' = .panicking ({ v := .iface 52 (.agg #[.int .i64 k]), recovered := true } :: older) ∧ Turn (fun i => i = p1 ∨ i = p2 ∨ i = p3) w w' ∧ w'.heap[p1]? = some (.cells #[.int .i64 s.f0, .string s.f1.f0, .string s.f1.f1, .int .u8 s.f1.f2, .int .i64 s.f1.f3, .int .i64 s.f1.f4, .int .i64 s.f1.f5, .int .i64 s.f1.f6, .string s.f1.f7, .int .i64 s.f2, .int .i64 s.f3, .string s.f4, .string s.f5, .string s.f6] 25 (0, 0)) ∧ w'.heap[p2]? = some (.cells #[.slice none 0 0] 29 (0, 0)) ∧ w'.heap[p3]? = some (.cells #[.int .i64 k] 30 (0, 0)) := by
  have hta : ∀ W : World, (Instr.typeAssert (.iface 52 (.agg #[.int .i64 k])) 20 52 false).run Try.prog W = .ok (.agg #[.int .i64 k]) W := fun W => by kernel_rfl
  have hfl : ∀ W : World, (Instr.field 52 (.agg #[.int .i64 k]) 0).run Try.prog W = .ok (.int .i64 k) W := fun W => by kernel_rfl
  refine callsD_of_wpS Try.func24 rfl fun c₀ cs hu => ?_
  apply wpS_seq
  apply wpS_region
  simp [wpOpsS, go_sem, recoverD, hu, Try.ntmps24, Exit.thenS]
  apply wpS_seq
  apply wpS_region
  simp [wpOpsS, go_sem, Exit.thenS]
  refine wpS_cond (t := true) (by simp [Act.eval, Array.replicate]) ?_
  simp only [if_true]
  refine wpS_of_wp ?_
  show Code.wp _ _ _ { tmps := #[.pointer (some ⟨p0, 0, none⟩), .pointer (some ⟨p1, 0, none⟩), .pointer (some ⟨p2, 0, none⟩), .pointer (some ⟨p3, 0, none⟩), .iface 52 (.agg #[.int .i64 k]), .iface 52 (.agg #[.int .i64 k]), .iface 52 (.agg #[.int .i64 k]), .bool true, undef, undef, undef, undef], defers := [] } w
  have q0 := (blk_cell h0 0).trans (show _ = some (Value.int .i64 s.f0) from rfl)
  have q1 := (blk_cell h0 1).trans (show _ = some (Value.string s.f1.f0) from rfl)
  have q2 := (blk_cell h0 2).trans (show _ = some (Value.string s.f1.f1) from rfl)
  have q3 := (blk_cell h0 3).trans (show _ = some (Value.int .u8 s.f1.f2) from rfl)
  have q4 := (blk_cell h0 4).trans (show _ = some (Value.int .i64 s.f1.f3) from rfl)
  have q5 := (blk_cell h0 5).trans (show _ = some (Value.int .i64 s.f1.f4) from rfl)
  have q6 := (blk_cell h0 6).trans (show _ = some (Value.int .i64 s.f1.f5) from rfl)
  have q7 := (blk_cell h0 7).trans (show _ = some (Value.int .i64 s.f1.f6) from rfl)
  have q8 := (blk_cell h0 8).trans (show _ = some (Value.string s.f1.f7) from rfl)
  have q9 := (blk_cell h0 9).trans (show _ = some (Value.int .i64 s.f2) from rfl)
  have q10 := (blk_cell h0 10).trans (show _ = some (Value.int .i64 s.f3) from rfl)
  have q11 := (blk_cell h0 11).trans (show _ = some (Value.string s.f4) from rfl)
  have q12 := (blk_cell h0 12).trans (show _ = some (Value.string s.f5) from rfl)
  have q13 := (blk_cell h0 13).trans (show _ = some (Value.string s.f6) from rfl)
  refine start_ (n := 7) (S := fun w' => w'.cell? ⟨p0, 0, none⟩ = some (.int .i64 s.f0) ∧ w'.cell? ⟨p0, 1, none⟩ = some (.string s.f1.f0) ∧ w'.cell? ⟨p0, 2, none⟩ = some (.string s.f1.f1) ∧ w'.cell? ⟨p0, 3, none⟩ = some (.int .u8 s.f1.f2) ∧ w'.cell? ⟨p0, 4, none⟩ = some (.int .i64 s.f1.f3) ∧ w'.cell? ⟨p0, 5, none⟩ = some (.int .i64 s.f1.f4) ∧ w'.cell? ⟨p0, 6, none⟩ = some (.int .i64 s.f1.f5) ∧ w'.cell? ⟨p0, 7, none⟩ = some (.int .i64 s.f1.f6) ∧ w'.cell? ⟨p0, 8, none⟩ = some (.string s.f1.f7) ∧ w'.cell? ⟨p0, 9, none⟩ = some (.int .i64 s.f2) ∧ w'.cell? ⟨p0, 10, none⟩ = some (.int .i64 s.f3) ∧ w'.cell? ⟨p0, 11, none⟩ = some (.string s.f4) ∧ w'.cell? ⟨p0, 12, none⟩ = some (.string s.f5) ∧ w'.cell? ⟨p0, 13, none⟩ = some (.string s.f6)) (ds := [4, 5, 6]) #[false, false, false, false, false, false, false] (by kernel_rfl) rfl rfl ⟨q0, q1, q2, q3, q4, q5, q6, q7, q8, q9, q10, q11, q12, q13⟩ (fun hHeld => ?_)
  refine take_ (i := 0) (N := some 8) (v := ?_) (a' := ?_) #[true, false, false, false, false, false, false] rfl rfl (by kernel_rfl) (fun _ _ _ h => h) (Or.inl ⟨by rfl, ?_⟩) hHeld ?_ ?_
  rotate_left
  · rintro w' ⟨s0, s1, s2, s3, s4, s5, s6, s7, s8, s9, s10, s11, s12, s13⟩
    go_simp
    with_reducible rfl
  rotate_left
  · simp only [Act.put, List.setIfInBounds_toArray, List.set_cons_zero, List.set_cons_succ, i64_w, i32_w]
    rfl
  refine pure_ (i := 1) (N := some 9) (v := ?_) (a' := ?_) #[true, true, false, false, false, false, false] rfl rfl (by kernel_rfl) (fun _ _ _ h => h) (Or.inl ⟨by rfl, ?_⟩) ?_ ?_
  rotate_left
  · intro w'
    go_simp
    with_reducible rfl
  rotate_left
  · simp only [Act.put, List.setIfInBounds_toArray, List.set_cons_zero, List.set_cons_succ, i64_w, i32_w]
    rfl
  refine pure_ (i := 2) (N := some 10) (v := ?_) (a' := ?_) #[true, true, true, false, false, false, false] rfl rfl (by kernel_rfl) (fun _ _ _ h => h) (Or.inl ⟨by rfl, ?_⟩) ?_ ?_
  rotate_left
  · intro w'
    go_simp
    with_reducible rfl
  rotate_left
  · simp only [Act.put, List.setIfInBounds_toArray, List.set_cons_zero, List.set_cons_succ, i64_w, i32_w]
    rfl
  refine pure_ (i := 3) (N := some 11) (v := ?_) (a' := ?_) #[true, true, true, true, false, false, false] rfl rfl (by kernel_rfl) (fun _ _ _ h => h) (Or.inl ⟨by rfl, ?_⟩) ?_ ?_
  rotate_left
  · intro w'
    go_simp
    with_reducible rfl
  rotate_left
  · simp only [Act.put, List.setIfInBounds_toArray, List.set_cons_zero, List.set_cons_succ, i64_w, i32_w]
    rfl
  clear q0 q1 q2 q3 q4 q5 q6 q7 q8 q9 q10 q11 q12 q13
  have H1 := Aside0.mk (blk_drew h1)
  have H2 := Aside0.mk (blk_drew h2)
  have H3 := Aside0.mk (blk_drew h3)
  have HT := Aside0.mk (Turn.drew (S := fun i => i = p1 ∨ i = p2 ∨ i = p3) w)
  obtain ⟨W1, hW1⟩ : ∃ W', w.drew = W' := ⟨_, rfl⟩
  rw [hW1] at H1 H2 H3 HT hHeld ⊢
  clear hW1 h1 h2 h3 h0
  have z0 := (blk_cell H1.out 0).trans (show _ = some (Value.int .i64 t.f0) from rfl)
  have y0 := blk_frozen H1.out 0
  have z1 := (blk_cell H1.out 1).trans (show _ = some (Value.string t.f1.f0) from rfl)
  have y1 := blk_frozen H1.out 1
  have z2 := (blk_cell H1.out 2).trans (show _ = some (Value.string t.f1.f1) from rfl)
  have y2 := blk_frozen H1.out 2
  have z3 := (blk_cell H1.out 3).trans (show _ = some (Value.int .u8 t.f1.f2) from rfl)
  have y3 := blk_frozen H1.out 3
  have z4 := (blk_cell H1.out 4).trans (show _ = some (Value.int .i64 t.f1.f3) from rfl)
  have y4 := blk_frozen H1.out 4
  have z5 := (blk_cell H1.out 5).trans (show _ = some (Value.int .i64 t.f1.f4) from rfl)
  have y5 := blk_frozen H1.out 5
  have z6 := (blk_cell H1.out 6).trans (show _ = some (Value.int .i64 t.f1.f5) from rfl)
  have y6 := blk_frozen H1.out 6
  have z7 := (blk_cell H1.out 7).trans (show _ = some (Value.int .i64 t.f1.f6) from rfl)
  have y7 := blk_frozen H1.out 7
  have z8 := (blk_cell H1.out 8).trans (show _ = some (Value.string t.f1.f7) from rfl)
  have y8 := blk_frozen H1.out 8
  have z9 := (blk_cell H1.out 9).trans (show _ = some (Value.int .i64 t.f2) from rfl)
  have y9 := blk_frozen H1.out 9
  have z10 := (blk_cell H1.out 10).trans (show _ = some (Value.int .i64 t.f3) from rfl)
  have y10 := blk_frozen H1.out 10
  have z11 := (blk_cell H1.out 11).trans (show _ = some (Value.string t.f4) from rfl)
  have y11 := blk_frozen H1.out 11
  have z12 := (blk_cell H1.out 12).trans (show _ = some (Value.string t.f5) from rfl)
  have y12 := blk_frozen H1.out 12
  have z13 := (blk_cell H1.out 13).trans (show _ = some (Value.string t.f6) from rfl)
  have y13 := blk_frozen H1.out 13
  refine last_ (i := 4) (N := none) #[true, true, true, true, true, false, false] rfl rfl (by kernel_rfl) (by decide) (fun K hK => ?_)
  rw [if_pos (by rfl)]
  go_simp
  refine hK.out _ _ ?_
  clear hK K
  clear z0 y0 z1 y1 z2 y2 z3 y3 z4 y4 z5 y5 z6 y6 z7 y7 z8 y8 z9 y9 z10 y10 z11 y11 z12 y12 z13 y13
  have S1 := set14 H1.out HT.out (.inl rfl) s
  have S1 := set14 (S := fun i => i = p1 ∨ i = p2 ∨ i = p3) H1.out HT.out (.inl rfl) s
  have S2 := far14 H2.out hne.1.symm s
  have S3 := far14 H3.out hne.2.1.symm s
  obtain ⟨W2, hW2⟩ : ∃ W', ((((((((((((((W1.setCell ⟨p1, 0, none⟩ (.int .i64 s.f0)).setCell ⟨p1, 1, none⟩ (.string s.f1.f0)).setCell ⟨p1, 2, none⟩ (.string s.f1.f1)).setCell ⟨p1, 3, none⟩ (.int .u8 s.f1.f2)).setCell ⟨p1, 4, none⟩ (.int .i64 s.f1.f3)).setCell ⟨p1, 5, none⟩ (.int .i64 s.f1.f4)).setCell ⟨p1, 6, none⟩ (.int .i64 s.f1.f5)).setCell ⟨p1, 7, none⟩ (.int .i64 s.f1.f6)).setCell ⟨p1, 8, none⟩ (.string s.f1.f7)).setCell ⟨p1, 9, none⟩ (.int .i64 s.f2)).setCell ⟨p1, 10, none⟩ (.int .i64 s.f3)).setCell ⟨p1, 11, none⟩ (.string s.f4)).setCell ⟨p1, 12, none⟩ (.string s.f5)).setCell ⟨p1, 13, none⟩ (.string s.f6)) = W' := ⟨_, rfl⟩
  rw [hW2] at S1 S2 S3 ⊢
  clear hW2 H1 H2 H3 HT
  have S2 := Aside0.mk S2
  have S3 := Aside0.mk S3
  have HS1 := Aside0.mk S1.1
  have HT2 := Aside0.mk S1.2
  clear S1
  have z := (blk_cell S2.out 0).trans (show _ = some v0 from rfl)
  have y := blk_frozen S2.out 0
  refine last_ (i := 5) (N := none) #[true, true, true, true, true, true, false] rfl rfl (by kernel_rfl) (by decide) (fun K hK => ?_)
  rw [if_pos (by rfl)]
  go_simp
  refine hK.out _ _ ?_
  clear hK K
  clear z y
  have U1 := Aside0.mk (blk_far HS1.out (p := ⟨p2, 0, none⟩) hne.1 (.slice none 0 0))
  have U2 := Aside0.mk (blk_put S2.out 0 (.slice none 0 0) rfl)
  have U3 := Aside0.mk (blk_far S3.out (p := ⟨p2, 0, none⟩) hne.2.2.1.symm (.slice none 0 0))
  have UT := Aside0.mk (HT2.out.trans (Turn.setCell W2 (p := ⟨p2, 0, none⟩) (.slice none 0 0) (.inr (.inl rfl))))
  obtain ⟨W3, hW3⟩ : ∃ W', W2.setCell ⟨p2, 0, none⟩ (.slice none 0 0) = W' := ⟨_, rfl⟩
  rw [hW3] at U1 U2 U3 UT ⊢
  clear hW3 S2 S3 HS1 HT2
  have z := (blk_cell U3.out 0).trans (show _ = some (Value.int .i64 k0) from rfl)
  have y := blk_frozen U3.out 0
  refine last_ (i := 6) (N := none) #[true, true, true, true, true, true, true] rfl rfl (by kernel_rfl) (by decide) (fun K hK => ?_)
  rw [if_pos (by rfl)]
  go_simp
  refine hK.out _ _ ?_
  clear hK K
  refine done_ (by kernel_rfl) ?_
  have X1 := blk_far U1.out (p := ⟨p3, 0, none⟩) hne.2.1 (.int .i64 k)
  have X2 := blk_far U2.out (p := ⟨p3, 0, none⟩) hne.2.2.1 (.int .i64 k)
  have X3 := blk_put U3.out 0 (.int .i64 k) rfl
  have XT := UT.out.trans (Turn.setCell W3 (p := ⟨p3, 0, none⟩) (.int .i64 k) (.inr (.inr rfl)))
  generalize W3.setCell ⟨p3, 0, none⟩ (.int .i64 k) = W4 at *
  clear U1 U2 U3 UT hta hfl
  simp only [bodyPostS]
  exact ⟨trivial, _, rfl, .tuple #[], by simp [results, Try.results24], rfl, rfl, XT, X1, X2, X3⟩
theorem step1_idle (p0 p1 p2 p3 : Nat) (w : World) :
    CallsD Try.prog 24 #[.pointer (some ⟨p0, 0, none⟩), .pointer (some ⟨p1, 0, none⟩), .pointer (some ⟨p2, 0, none⟩), .pointer (some ⟨p3, 0, none⟩)] .returning w fun e u' w' => e = .returned (.tuple #[]) ∧ u' = .returning ∧ w' = w := by
  refine callsD_of_wpS Try.func24 rfl fun c₀ cs hu => ?_
  apply wpS_seq
  apply wpS_region
  simp [wpOpsS, go_sem, recoverD, hu, Try.ntmps24, Exit.thenS]
  apply wpS_seq
  apply wpS_region
  simp [wpOpsS, go_sem, Exit.thenS]
  refine wpS_cond (t := false) (by simp [Act.eval, Array.replicate]) ?_
  simp only [Bool.false_eq_true, if_false]
  refine wpS_of_wp (wp_skip ?_)
  cases c₀
  simp_all [bodyPostS, results, Try.results24]

end Go.Proofs.Ytoahjigjlgcjkaa.X
